/-
  What a disk keeps, saves, syncs and crashes: the plain law.
-/
import Derived.Test.YtnbljcbfnplbaaaBF
import Derived.Test.YtnbljcbfnplbaaaBD
import Derived.Test.YtnbljcbfnplbaaaBE
namespace Go.Proofs.Ytnbljcbfnplbaaa
open Go.RowKit
set_option linter.unusedVariables false
/-! ### What a disk keeps -/
/-- A ballot and entries. -/
abbrev St := Int × Int × List En
def st0 : St := (0, 0, [])
def entOf (n : List Int) : En := (n.getD 1 0, n.getD 2 0, n.getD 3 0, n.getD 4 0, n.getD 5 0, n.getD 6 0, n.getD 7 0)
def numsOf (i : Int) (e : En) : List Int := [i, e.1, e.2.1, e.2.2.1, e.2.2.2.1, e.2.2.2.2.1, e.2.2.2.2.2.1, e.2.2.2.2.2.2]
theorem entOf_nums (i : Int) (e : En) : entOf (numsOf i e) = e := rfl
/-- A state behind the numbers of a record. -/
def stepN (s : St) (k : Int) (n : List Int) : Option St :=
  if k = 1 ∧ n.length = 2 then (if mayV (n.getD 0 0) (n.getD 1 0) = true then some (n.getD 0 0, n.getD 1 0, s.2.2) else none)
  else if k = 2 ∧ n.length = 8 ∧ n.getD 0 0 = (s.2.2.length : Int) + 1 then (if mayL 0 0 (s.2.2 ++ [entOf n]) = true then some (s.1, s.2.1, s.2.2 ++ [entOf n]) else none)
  else if k = 3 ∧ n.length = 1 ∧ n.getD 0 0 ≤ (s.2.2.length : Int) then some (s.1, s.2.1, s.2.2.take (n.getD 0 0).toNat)
  else none
/-- A state behind a record; none: it stops there. -/
def stepV (s : St) (f : Fr) : Option St := if (unpackP f.2).1 = 0 ∧ (unpackP f.2).2.2.length = 0 then stepN s f.1 (unpackP f.2).2.1 else none
/-- What records keep, and how many bytes of them: with so much fuel. -/
def readG : Nat → List UInt8 → St → St × Nat
  | 0, _, s => (s, 0)
  | k + 1, bs, s => if bs.length ≠ 0 ∧ getE bs = 0 then (match stepV s (getF bs) with
    | some s' => ((readG k (bs.drop (getN bs)) s').1, getN bs + (readG k (bs.drop (getN bs)) s').2)
    | none => (s, 0)) else (s, 0)
theorem readG_nil {k : Nat} {bs : List UInt8} {s : St} (h : bs.length = 0) : readG k bs s = (s, 0) := by
  cases k with
  | zero => rfl
  | succ k => unfold readG; rw [if_neg (fun h' => h'.1 h)]
theorem readG_err {k : Nat} {bs : List UInt8} {s : St} (h : getE bs ≠ 0) : readG k bs s = (s, 0) := by
  cases k with
  | zero => rfl
  | succ k => unfold readG; rw [if_neg (fun h' => h h'.2)]
theorem getE_len {bs : List UInt8} (h : getE bs = 0) : bs.length ≠ 0 := by have := getN_pos h; omega
theorem readG_none {k : Nat} {bs : List UInt8} {s : St} (h : getE bs = 0) (hs : stepV s (getF bs) = none) : readG k bs s = (s, 0) := by
  cases k with
  | zero => rfl
  | succ k => unfold readG; rw [if_pos ⟨getE_len h, h⟩, hs]
theorem readG_some {k : Nat} {bs : List UInt8} {s s' : St} (h : getE bs = 0) (hs : stepV s (getF bs) = some s') : readG (k + 1) bs s = ((readG k (bs.drop (getN bs)) s').1, getN bs + (readG k (bs.drop (getN bs)) s').2) := by
  rw [readG, if_pos ⟨getE_len h, h⟩, hs]
theorem readG_fuel : ∀ (k m : Nat) (bs : List UInt8) (s : St), bs.length ≤ k → bs.length ≤ m → readG k bs s = readG m bs s := by
  intro k
  induction k with
  | zero =>
    intro m bs s hk _
    rw [readG_nil (by omega), readG_nil (by omega)]
  | succ k ih =>
    intro m bs s hk hm
    by_cases he : getE bs = 0
    · have hp := getN_pos he
      cases hs : stepV s (getF bs) with
      | none => rw [readG_none he hs, readG_none he hs]
      | some s' =>
        cases m with
        | zero => omega
        | succ m =>
          rw [readG_some he hs, readG_some he hs, ih m (bs.drop (getN bs)) s' (by rw [List.length_drop]; omega) (by rw [List.length_drop]; omega)]
    · rw [readG_err he, readG_err he]
/-- What records keep behind a state, and how many bytes of them. -/
def readS (bs : List UInt8) (s : St) : St × Nat := readG bs.length bs s
def readV (bs : List UInt8) : St × Nat := readS bs st0
theorem readS_nil {s : St} : readS [] s = (s, 0) := rfl
theorem readS_err {bs : List UInt8} {s : St} (h : getE bs ≠ 0) : readS bs s = (s, 0) := readG_err h
theorem readS_none {bs : List UInt8} {s : St} (h : getE bs = 0) (hs : stepV s (getF bs) = none) : readS bs s = (s, 0) := readG_none h hs
theorem readS_some {bs : List UInt8} {s s' : St} (h : getE bs = 0) (hs : stepV s (getF bs) = some s') : readS bs s = ((readS (bs.drop (getN bs)) s').1, getN bs + (readS (bs.drop (getN bs)) s').2) := by
  have hp := getN_pos h
  obtain ⟨k, hk⟩ : ∃ k, bs.length = k + 1 := ⟨bs.length - 1, by omega⟩
  unfold readS
  rw [hk, readG_some h hs, readG_fuel k (bs.drop (getN bs)).length _ _ (by rw [List.length_drop]; omega) (Nat.le_refl _)]
theorem readS_le : ∀ (k : Nat) (bs : List UInt8) (s : St), bs.length ≤ k → (readS bs s).2 ≤ bs.length
  | 0, bs, s, h => by
    have : bs = [] := List.eq_nil_of_length_eq_zero (by omega)
    subst this
    exact Nat.le_refl _
  | k + 1, bs, s, h => by
    by_cases he : getE bs = 0
    · have hp := getN_pos he
      cases hs : stepV s (getF bs) with
      | none => rw [readS_none he hs]; exact Nat.zero_le _
      | some s' =>
        rw [readS_some he hs]
        have := readS_le k (bs.drop (getN bs)) s' (by rw [List.length_drop]; omega)
        rw [List.length_drop] at this
        show getN bs + _ ≤ _
        omega
    · rw [readS_err he]; exact Nat.zero_le _
theorem readV_le (bs : List UInt8) : (readV bs).2 ≤ bs.length := readS_le _ bs st0 (Nat.le_refl _)
/-- A state that may be. -/
def StOk (s : St) : Prop := mayV s.1 s.2.1 = true ∧ mayL 0 0 s.2.2 = true
theorem mayL_take {es : List En} (h : mayL 0 0 es = true) (k : Nat) : mayL 0 0 (es.take k) = true := by
  obtain ⟨h1, h2, h3, h4, h5, h6, h7⟩ := mayL_true h
  exact mayL_mk h1 h2 h3 h4 h5 (by rw [List.length_take]; omega) (rising_take h7 k)
theorem stepN_ok {s s' : St} {k : Int} {n : List Int} (hs : StOk s) (h : stepN s k n = some s') : StOk s' := by
  unfold stepN at h
  split at h
  · split at h
    · rename_i h1; cases h; exact ⟨h1, hs.2⟩
    · cases h
  · split at h
    · split at h
      · rename_i h1; cases h; exact ⟨hs.1, h1⟩
      · cases h
    · split at h
      · cases h; exact ⟨hs.1, mayL_take hs.2 _⟩
      · cases h
theorem stepV_ok {s s' : St} {f : Fr} (hs : StOk s) (h : stepV s f = some s') : StOk s' := by
  unfold stepV at h
  split at h
  · exact stepN_ok hs h
  · cases h
theorem st0_ok : StOk st0 := ⟨by decide, by decide⟩
theorem readS_ok : ∀ (k : Nat) (bs : List UInt8) (s : St), bs.length ≤ k → StOk s → StOk (readS bs s).1
  | 0, bs, s, h, hs => by
    have : bs = [] := List.eq_nil_of_length_eq_zero (by omega)
    subst this
    exact hs
  | k + 1, bs, s, h, hs => by
    by_cases he : getE bs = 0
    · have hp := getN_pos he
      cases hst : stepV s (getF bs) with
      | none => rw [readS_none he hst]; exact hs
      | some s' =>
        rw [readS_some he hst]
        exact readS_ok k (bs.drop (getN bs)) s' (by rw [List.length_drop]; omega) (stepV_ok hs hst)
    · rw [readS_err he]; exact hs
theorem readV_ok (bs : List UInt8) : StOk (readV bs).1 := readS_ok _ bs st0 (Nat.le_refl _) st0_ok
/-! ### Records -/
def recB (k : Int) (ns : List Int) : List UInt8 := putB (k, packX (ns, []))
/-- Numbers of a record. -/
def RecOk (k : Int) (ns : List Int) : Prop := 0 ≤ k ∧ k ≤ 255 ∧ ns.length ≤ 8 ∧ Fair ns
theorem rec_pack {ns : List Int} (hl : ns.length ≤ 8) (hf : Fair ns) : packE (ns, []) = 0 := by
  unfold packE
  rw [if_neg (by simp; omega), if_neg]
  intro h
  obtain ⟨m, hm, hs⟩ := List.any_eq_true.1 h
  have h1 := hf m hm
  have h2 := (sizeI_ok h1.1 h1.2).1
  have := of_decide_eq_true hs
  omega
theorem rec_put {k : Int} {ns : List Int} (h : RecOk k ns) : putE (k, packX (ns, [])) = 0 := by
  obtain ⟨h1, h2, h3, h4⟩ := h
  have hl := packX_length (ns, [])
  have hs := sum_le (ns := ns) h4
  unfold putE
  rw [if_neg (by simp; omega), if_neg (by simp at hl ⊢; omega)]
theorem rec_length {k : Int} {ns : List Int} (h : RecOk k ns) : 8 ≤ (recB k ns).length ∧ (recB k ns).length ≤ 83 := by
  have h1 := putB_length (rec_put h)
  have hl := packX_length (ns, [])
  have hs := sum_le (ns := ns) h.2.2.2
  have := h.2.2.1
  unfold recB
  simp at hl
  rw [h1]
  simp only
  omega
theorem rec_get {k : Int} {ns : List Int} (h : RecOk k ns) (more : List UInt8) : getE (recB k ns ++ more) = 0 ∧ getN (recB k ns ++ more) = (recB k ns).length ∧ getF (recB k ns ++ more) = (k, packX (ns, [])) := putB_get (rec_put h) more
theorem rec_step {k : Int} {ns : List Int} (h : RecOk k ns) (s : St) : stepV s (k, packX (ns, [])) = stepN s k ns := by
  have := unpackP_put (rec_pack h.2.2.1 h.2.2.2)
  unfold stepV
  simp only [this]
  rw [if_pos (by simp)]
theorem rec_read {k : Int} {ns : List Int} (h : RecOk k ns) {s s' : St} (hs : stepN s k ns = some s') (more : List UInt8) : readS (recB k ns ++ more) s = ((readS more s').1, (recB k ns).length + (readS more s').2) := by
  obtain ⟨h1, h2, h3⟩ := rec_get h more
  rw [readS_some h1 (s' := s') (by rw [h3, rec_step h, hs]), h2, List.drop_left]
theorem rec_torn {k : Int} {ns : List Int} (h : RecOk k ns) {X Y : List UInt8} (hX : recB k ns = X ++ Y) (hY : 0 < Y.length) (s : St) : readS X s = (s, 0) := by
  by_cases h0 : X.length = 0
  · rw [List.eq_nil_of_length_eq_zero h0, readS_nil]
  · have hlen := congrArg List.length hX
    rw [List.length_append] at hlen
    have e : X = (recB k ns).take X.length := by rw [hX, List.take_left]
    have := cut_more (rec_put h) X.length (by omega) (by show X.length < (recB k ns).length; omega)
    refine readS_err ?_
    rw [e]
    unfold recB at this ⊢
    rw [this]
    decide
/-! ### What is saved -/
def commonN : List En → List En → Nat
  | e :: es, f :: fs => if e = f then commonN es fs + 1 else 0
  | _, _ => 0
theorem commonN_spec : ∀ (es fs : List En), commonN es fs ≤ es.length ∧ commonN es fs ≤ fs.length ∧ es.take (commonN es fs) = fs.take (commonN es fs)
  | [], fs => by simp [commonN]
  | e :: es, [] => by simp [commonN]
  | e :: es, f :: fs => by
    obtain ⟨h1, h2, h3⟩ := commonN_spec es fs
    unfold commonN
    by_cases h : e = f
    · rw [if_pos h]
      refine ⟨by simp; omega, by simp; omega, ?_⟩
      rw [List.take_succ_cons, List.take_succ_cons, h, h3]
    · rw [if_neg h]; simp
theorem commonN_stop : ∀ (es fs : List En), commonN es fs < es.length → commonN es fs < fs.length → es[commonN es fs]? ≠ fs[commonN es fs]?
  | [], fs, h, _ => by simp at h
  | e :: es, [], _, h => by simp at h
  | e :: es, f :: fs, h1, h2 => by
    unfold commonN at h1 h2 ⊢
    by_cases h : e = f
    · rw [if_pos h] at h1 h2 ⊢
      simp at h1 h2
      have := commonN_stop es fs (by omega) (by omega)
      simpa using this
    · rw [if_neg h]
      simpa using h
/-- The records of entries behind so many. -/
def entRecs (i : Nat) : List En → List UInt8
  | [] => []
  | e :: es => recB 2 (numsOf ((i + 1 : Nat) : Int) e) ++ entRecs (i + 1) es
/-- The command's numbers may be. -/
def EnFair (e : En) : Prop := Fair [e.2.1, e.2.2.1, e.2.2.2.1, e.2.2.2.2.1, e.2.2.2.2.2.1, e.2.2.2.2.2.2]
instance decFair (e : En) : Decidable (EnFair e) := by unfold EnFair Fair; infer_instance
theorem ent_rec {l : List En} (hm : mayL 0 0 l = true) {i : Nat} (hi : i < l.length) (hf : EnFair (l[i]'hi)) : RecOk 2 (numsOf ((i + 1 : Nat) : Int) (l[i]'hi)) := by
  obtain ⟨_, _, _, _, _, h6, h7⟩ := mayL_true hm
  have ht := rising_at hi h7
  refine ⟨by omega, by omega, by simp [numsOf], fun n hn => ?_⟩
  unfold EnFair at hf
  generalize (l[i]'hi) = e at hf hn ht
  unfold numsOf at hn
  rcases List.mem_cons.1 hn with rfl | hn
  · omega
  · rcases List.mem_cons.1 hn with rfl | hn
    · omega
    · exact hf n hn
theorem ent_step {l : List En} (hm : mayL 0 0 l = true) {i : Nat} (hi : i < l.length) (t v : Int) : stepN (t, v, l.take i) 2 (numsOf ((i + 1 : Nat) : Int) (l[i]'hi)) = some (t, v, l.take (i + 1)) := by
  unfold stepN
  have hl : (l.take i).length = i := by rw [List.length_take]; omega
  simp only [hl]
  rw [if_neg (fun h => absurd h.1 (by decide)), if_pos ⟨trivial, rfl, by simp [numsOf]⟩, entOf_nums, ← List.take_succ_eq_append_getElem hi, if_pos (mayL_take hm _)]
/-- Which states are come by, up to the new one. -/
def Between (h : St) (t v : Int) (l : List En) (s : St) : Prop :=
  ((s.1 = h.1 ∧ s.2.1 = h.2.1) ∨ (s.1 = t ∧ s.2.1 = v)) ∧ ((∃ k, commonN h.2.2 l ≤ k ∧ s.2.2 = h.2.2.take k) ∨ (∃ k, commonN h.2.2 l ≤ k ∧ s.2.2 = l.take k))
theorem entRecs_read {t v : Int} {l : List En} (hm : mayL 0 0 l = true) (hf : ∀ e ∈ l, EnFair e) : ∀ (m i : Nat), i + m = l.length → ∀ more : List UInt8,
    readS (entRecs i (l.drop i) ++ more) (t, v, l.take i) = ((readS more (t, v, l)).1, (entRecs i (l.drop i)).length + (readS more (t, v, l)).2)
  | 0, i, hi, more => by
    rw [List.drop_of_length_le (by omega), List.take_of_length_le (by omega)]
    simp [entRecs]
  | m + 1, i, hi, more => by
    have hil : i < l.length := by omega
    rw [List.drop_eq_getElem_cons hil, entRecs, List.append_assoc, rec_read (ent_rec hm hil (hf _ (List.getElem_mem hil))) (ent_step hm hil t v), entRecs_read hm hf m (i + 1) (by omega) more, List.length_append]
    simp [Nat.add_assoc]
theorem entRecs_torn {h : St} {t v : Int} {l : List En} (hm : mayL 0 0 l = true) (hf : ∀ e ∈ l, EnFair e) : ∀ (m i : Nat), i + m = l.length → commonN h.2.2 l ≤ i → ∀ X Y : List UInt8, entRecs i (l.drop i) = X ++ Y →
    Between h t v l (readS X (t, v, l.take i)).1
  | 0, i, hi, hc, X, Y, hX => by
    rw [List.drop_of_length_le (by omega)] at hX
    have : X = [] := by
      cases X with
      | nil => rfl
      | cons x X => simp [entRecs] at hX
    subst this
    rw [readS_nil]
    exact ⟨.inr ⟨rfl, rfl⟩, .inr ⟨i, hc, rfl⟩⟩
  | m + 1, i, hi, hc, X, Y, hX => by
    have hil : i < l.length := by omega
    have hr := ent_rec hm hil (hf _ (List.getElem_mem hil))
    rw [List.drop_eq_getElem_cons hil, entRecs] at hX
    rcases List.append_eq_append_iff.1 hX with ⟨Z, h1, h2⟩ | ⟨Z, h1, h2⟩
    · rw [h1, rec_read hr (ent_step hm hil t v)]
      exact entRecs_torn hm hf m (i + 1) (by omega) (by omega) Z Y h2
    · by_cases hZ : Z = []
      · subst hZ
        rw [List.append_nil] at h1
        have := rec_read hr (ent_step hm hil t v) []
        rw [List.append_nil, h1, readS_nil] at this
        rw [this]
        exact ⟨.inr ⟨rfl, rfl⟩, .inr ⟨i + 1, by omega, rfl⟩⟩
      · rw [rec_torn hr h1 (List.length_pos_iff.2 hZ)]
        exact ⟨.inr ⟨rfl, rfl⟩, .inr ⟨i, hc, rfl⟩⟩
/-- What Save writes behind what is held. -/
def saveB (h : St) (t v : Int) (l : List En) : List UInt8 :=
  (if h.1 = t ∧ h.2.1 = v then [] else recB 1 [t, v]) ++ ((if commonN h.2.2 l < h.2.2.length then recB 3 [((commonN h.2.2 l : Nat) : Int)] else []) ++ entRecs (commonN h.2.2 l) (l.drop (commonN h.2.2 l)))
theorem ballot_rec {t v : Int} (h : mayV t v = true) : RecOk 1 [t, v] := by
  unfold mayV memberB at h
  simp at h
  refine ⟨by omega, by omega, by simp, fun n hn => ?_⟩
  simp at hn
  rcases hn with rfl | rfl
  · omega
  · omega
theorem ballot_step {t v : Int} (h : mayV t v = true) (s : St) : stepN s 1 [t, v] = some (t, v, s.2.2) := by
  unfold stepN
  rw [if_pos ⟨rfl, rfl⟩]
  simp [h]
theorem left_rec {n : Nat} (h : n ≤ 64) : RecOk 3 [((n : Nat) : Int)] := ⟨by omega, by omega, by simp, fun m hm => by simp at hm; omega⟩
theorem left_step {n : Nat} {s : St} (h : n ≤ s.2.2.length) : stepN s 3 [((n : Nat) : Int)] = some (s.1, s.2.1, s.2.2.take n) := by
  unfold stepN
  rw [if_neg (fun h => absurd h.1 (by decide)), if_neg (fun h => absurd h.1 (by decide)), if_pos ⟨rfl, rfl, by simp; omega⟩]
  simp
/-- What may be saved. -/
structure SaveOk (h : St) (t v : Int) (l : List En) : Prop where
  held : StOk h
  vote : mayV t v = true
  log : mayL 0 0 l = true
  fair : ∀ e ∈ l, EnFair e
theorem save_tail {h : St} {t v : Int} {l : List En} (ok : SaveOk h t v l) (more : List UInt8) :
    readS ((if commonN h.2.2 l < h.2.2.length then recB 3 [((commonN h.2.2 l : Nat) : Int)] else []) ++ entRecs (commonN h.2.2 l) (l.drop (commonN h.2.2 l)) ++ more) (t, v, h.2.2) =
      ((readS more (t, v, l)).1, ((if commonN h.2.2 l < h.2.2.length then recB 3 [((commonN h.2.2 l : Nat) : Int)] else []) ++ entRecs (commonN h.2.2 l) (l.drop (commonN h.2.2 l))).length + (readS more (t, v, l)).2) := by
  obtain ⟨c1, c2, c3⟩ := commonN_spec h.2.2 l
  have h64 := (mayL_true ok.held.2).2.2.2.2.2.1
  have hE := entRecs_read (t := t) (v := v) ok.log ok.fair (l.length - commonN h.2.2 l) (commonN h.2.2 l) (by omega) more
  by_cases hlt : commonN h.2.2 l < h.2.2.length
  · rw [if_pos hlt, List.append_assoc, rec_read (left_rec (by omega)) (left_step (s := (t, v, h.2.2)) c1)]
    simp only
    rw [c3, hE, List.length_append]
    simp [Nat.add_assoc]
  · rw [if_neg hlt, List.nil_append]
    have e : h.2.2 = l.take (commonN h.2.2 l) := by rw [← c3, List.take_of_length_le (by omega)]
    rw [show (t, v, h.2.2) = (t, v, l.take (commonN h.2.2 l)) by rw [← e], hE]
theorem save_read {h : St} {t v : Int} {l : List En} (ok : SaveOk h t v l) (more : List UInt8) : readS (saveB h t v l ++ more) h = ((readS more (t, v, l)).1, (saveB h t v l).length + (readS more (t, v, l)).2) := by
  have hT := save_tail ok more
  unfold saveB
  by_cases hb : h.1 = t ∧ h.2.1 = v
  · rw [if_pos hb, List.nil_append]
    have e : h = (t, v, h.2.2) := by rw [← hb.1, ← hb.2]
    rw [← e] at hT
    exact hT
  · rw [if_neg hb, List.append_assoc, rec_read (ballot_rec ok.vote) (ballot_step ok.vote h), hT, List.length_append]
    simp [Nat.add_assoc]
theorem save_torn {h : St} {t v : Int} {l : List En} (ok : SaveOk h t v l) {X Y : List UInt8} (hX : saveB h t v l = X ++ Y) : Between h t v l (readS X h).1 := by
  obtain ⟨c1, c2, c3⟩ := commonN_spec h.2.2 l
  have h64 := (mayL_true ok.held.2).2.2.2.2.2.1
  -- behind the ballot's record
  have tail : ∀ X Y : List UInt8, (if commonN h.2.2 l < h.2.2.length then recB 3 [((commonN h.2.2 l : Nat) : Int)] else []) ++ entRecs (commonN h.2.2 l) (l.drop (commonN h.2.2 l)) = X ++ Y → Between h t v l (readS X (t, v, h.2.2)).1 := by
    intro X Y hX
    have whole : Between h t v l (t, v, h.2.2) := ⟨.inr ⟨rfl, rfl⟩, .inl ⟨h.2.2.length, c1, by rw [List.take_length]⟩⟩
    by_cases hlt : commonN h.2.2 l < h.2.2.length
    · rw [if_pos hlt] at hX
      have hr := left_rec (n := commonN h.2.2 l) (by omega)
      have hs := left_step (s := (t, v, h.2.2)) c1
      simp only at hs
      rw [c3] at hs
      rcases List.append_eq_append_iff.1 hX with ⟨Z, h1, h2⟩ | ⟨Z, h1, h2⟩
      · rw [h1, rec_read hr hs]
        exact entRecs_torn (h := h) ok.log ok.fair (l.length - commonN h.2.2 l) (commonN h.2.2 l) (by omega) (Nat.le_refl _) Z Y h2
      · by_cases hZ : Z = []
        · subst hZ
          rw [List.append_nil] at h1
          have := rec_read hr hs []
          rw [List.append_nil, h1, readS_nil] at this
          rw [this]
          exact ⟨.inr ⟨rfl, rfl⟩, .inr ⟨commonN h.2.2 l, Nat.le_refl _, rfl⟩⟩
        · rw [rec_torn hr h1 (List.length_pos_iff.2 hZ)]
          exact whole
    · rw [if_neg hlt, List.nil_append] at hX
      have e : h.2.2 = l.take (commonN h.2.2 l) := by rw [← c3, List.take_of_length_le (by omega)]
      have := entRecs_torn (h := h) (t := t) (v := v) ok.log ok.fair (l.length - commonN h.2.2 l) (commonN h.2.2 l) (by omega) (Nat.le_refl _) X Y hX
      rwa [← e] at this
  unfold saveB at hX
  by_cases hb : h.1 = t ∧ h.2.1 = v
  · rw [if_pos hb, List.nil_append] at hX
    have e : h = (t, v, h.2.2) := by rw [← hb.1, ← hb.2]
    have := tail X Y hX
    rwa [← e] at this
  · rw [if_neg hb] at hX
    have hr := ballot_rec ok.vote
    have hs := ballot_step ok.vote h
    rcases List.append_eq_append_iff.1 hX with ⟨Z, h1, h2⟩ | ⟨Z, h1, h2⟩
    · rw [h1, rec_read hr hs]
      exact tail Z Y h2
    · by_cases hZ : Z = []
      · subst hZ
        rw [List.append_nil] at h1
        have := rec_read hr hs []
        rw [List.append_nil, h1, readS_nil] at this
        rw [this]
        exact ⟨.inr ⟨rfl, rfl⟩, .inl ⟨h.2.2.length, c1, by rw [List.take_length]⟩⟩
      · rw [rec_torn hr h1 (List.length_pos_iff.2 hZ)]
        exact ⟨.inl ⟨rfl, rfl⟩, .inl ⟨h.2.2.length, c1, by rw [List.take_length]⟩⟩
/-! ### A disk -/
/-- Its bytes, how many of them are synced, what is held. -/
abbrev Vt := List UInt8 × Nat × St
def vt0 : Vt := ([], 0, st0)
def oddE (e : En) : Bool := !decide (EnFair e ∧ 0 ≤ e.1 ∧ e.1 < 72057594037927936)
/-- The error of a save. -/
def saveE (x : Vt) (t v b bt : Int) (l : List En) : Int :=
  if mayV t v = true ∧ mayL b bt l = true ∧ b = 0 ∧ (∀ e ∈ l, EnFair e) then (if 65536 < (x.1 ++ saveB x.2.2 t v l).length then 7 else 0) else 1
def saveV (x : Vt) (t v b bt : Int) (l : List En) : Vt := if saveE x t v b bt l = 0 then (x.1 ++ saveB x.2.2 t v l, x.2.1, (t, v, l)) else x
def syncV (x : Vt) : Vt := (x.1, x.1.length, x.2.2)
def crashN (x : Vt) (keep : Int) : Nat := x.2.1 + (max keep 0 % ((x.1.length : Int) - (x.2.1 : Int) + 1)).toNat
def crashV (x : Vt) (keep : Int) : Vt := (x.1.take (readV (x.1.take (crashN x keep))).2, (readV (x.1.take (crashN x keep))).2, (readV (x.1.take (crashN x keep))).1)
/-- A disk that came by saves, syncs and crashes. -/
structure VtOk (x : Vt) : Prop where
  sync : x.2.1 ≤ x.1.length
  held : StOk x.2.2
  whole : readV x.1 = (x.2.2, x.1.length)
theorem vt0_ok : VtOk vt0 := ⟨Nat.le_refl _, st0_ok, rfl⟩
/-- What is read of what was read is the same. -/
theorem readS_take : ∀ (k : Nat) (bs : List UInt8) (s : St), bs.length ≤ k → readS (bs.take (readS bs s).2) s = ((readS bs s).1, (readS bs s).2)
  | 0, bs, s, h => by
    have : bs = [] := List.eq_nil_of_length_eq_zero (by omega)
    subst this
    rfl
  | k + 1, bs, s, h => by
    by_cases he : getE bs = 0
    · have hp := getN_pos he
      cases hst : stepV s (getF bs) with
      | none =>
        rw [readS_none he hst, List.take_zero, readS_nil]
      | some s' =>
        have ih := readS_take k (bs.drop (getN bs)) s' (by rw [List.length_drop]; omega)
        have hr := readS_some he hst
        obtain ⟨g1, g2⟩ := get_put he
        have hl : (putB (getF bs)).length = getN bs := by rw [g2, List.length_take]; omega
        have e : bs.take (readS bs s).2 = putB (getF bs) ++ (bs.drop (getN bs)).take (readS (bs.drop (getN bs)) s').2 := by
          rw [hr, g2]
          simp only
          rw [List.take_add]
        obtain ⟨p1, p2, p3⟩ := putB_get g1 ((bs.drop (getN bs)).take (readS (bs.drop (getN bs)) s').2)
        have e2 := readS_some (bs := putB (getF bs) ++ (bs.drop (getN bs)).take (readS (bs.drop (getN bs)) s').2) (s := s) (s' := s') p1 (by rw [p3, hst])
        rw [p2, List.drop_left, ih, hl] at e2
        rw [e, e2, hr]
    · rw [readS_err he, List.take_zero, readS_nil]
theorem crashN_le {x : Vt} (h : x.2.1 ≤ x.1.length) (keep : Int) : x.2.1 ≤ crashN x keep ∧ crashN x keep ≤ x.1.length := by
  unfold crashN
  have h1 : 0 < (x.1.length : Int) - (x.2.1 : Int) + 1 := by omega
  have h2 := Int.emod_nonneg (max keep 0) (show (x.1.length : Int) - (x.2.1 : Int) + 1 ≠ 0 by omega)
  have h3 := Int.emod_lt_of_pos (max keep 0) h1
  omega
theorem crashV_ok {x : Vt} (h : VtOk x) (keep : Int) : VtOk (crashV x keep) := by
  have hl := readV_le (x.1.take (crashN x keep))
  have hc := (crashN_le h.sync keep).2
  rw [List.length_take] at hl
  refine ⟨?_, readV_ok _, ?_⟩
  · unfold crashV
    simp only
    rw [List.length_take]
    omega
  · have := readS_take _ (x.1.take (crashN x keep)) st0 (Nat.le_refl _)
    unfold crashV
    simp only
    have e : (x.1.take (crashN x keep)).take (readV (x.1.take (crashN x keep))).2 = x.1.take (readV (x.1.take (crashN x keep))).2 := by
      rw [List.take_take, Nat.min_eq_left (by omega)]
    rw [← e]
    unfold readV at this ⊢
    rw [this]
    congr 1
    rw [List.length_take, List.length_take]
    have : (readS (List.take (crashN x keep) x.1) st0).2 ≤ min (crashN x keep) x.1.length := hl
    omega
theorem syncV_ok {x : Vt} (h : VtOk x) : VtOk (syncV x) := ⟨Nat.le_refl _, h.held, h.whole⟩
theorem saveE_zero {x : Vt} {t v b bt : Int} {l : List En} (h : saveE x t v b bt l = 0) : mayV t v = true ∧ mayL b bt l = true ∧ b = 0 ∧ bt = 0 ∧ mayL 0 0 l = true ∧ (∀ e ∈ l, EnFair e) ∧ (x.1 ++ saveB x.2.2 t v l).length ≤ 65536 := by
  unfold saveE at h
  split at h
  · rename_i h1
    obtain ⟨h1, h2, h3, h4⟩ := h1
    split at h
    · cases h
    · rename_i h5
      subst h3
      have hbt : bt = 0 := (mayL_true h2).2.2.2.2.1 rfl
      subst hbt
      exact ⟨h1, h2, rfl, rfl, h2, h4, by omega⟩
  · cases h
theorem saveV_eq {x : Vt} {t v b bt : Int} {l : List En} (h : saveE x t v b bt l = 0) : saveV x t v b bt l = (x.1 ++ saveB x.2.2 t v l, x.2.1, (t, v, l)) := if_pos h
theorem readS_append : ∀ (k : Nat) (bs cs : List UInt8) (s : St), bs.length ≤ k → (readS bs s).2 = bs.length → readS (bs ++ cs) s = ((readS cs (readS bs s).1).1, bs.length + (readS cs (readS bs s).1).2)
  | 0, bs, cs, s, h, _ => by
    have : bs = [] := List.eq_nil_of_length_eq_zero (by omega)
    subst this
    simp [readS_nil]
  | k + 1, bs, cs, s, h, hw => by
    by_cases h0 : bs.length = 0
    · have : bs = [] := List.eq_nil_of_length_eq_zero h0
      subst this
      simp [readS_nil]
    by_cases he : getE bs = 0
    · have hp := getN_pos he
      cases hst : stepV s (getF bs) with
      | none => rw [readS_none he hst] at hw; omega
      | some s' =>
        have hr := readS_some he hst
        rw [hr] at hw ⊢
        simp only at hw ⊢
        obtain ⟨g1, g2⟩ := get_put he
        have hl : (putB (getF bs)).length = getN bs := by rw [g2, List.length_take]; omega
        have ih := readS_append k (bs.drop (getN bs)) cs s' (by rw [List.length_drop]; omega) (by rw [List.length_drop]; omega)
        have e : bs ++ cs = putB (getF bs) ++ (bs.drop (getN bs) ++ cs) := by rw [g2, ← List.append_assoc, List.take_append_drop]
        obtain ⟨p1, p2, p3⟩ := putB_get g1 (bs.drop (getN bs) ++ cs)
        have e2 := readS_some (bs := putB (getF bs) ++ (bs.drop (getN bs) ++ cs)) (s := s) (s' := s') p1 (by rw [p3, hst])
        rw [p2, List.drop_left, ih, hl] at e2
        rw [e, e2, List.length_drop]
        simp only [Prod.mk.injEq, true_and]
        omega
    · rw [readS_err he] at hw; omega
theorem save_ok {x : Vt} (hx : VtOk x) {t v b bt : Int} {l : List En} (h : saveE x t v b bt l = 0) : SaveOk x.2.2 t v l := by
  obtain ⟨h1, _, _, _, h2, h3, _⟩ := saveE_zero h
  exact ⟨hx.held, h1, h2, h3⟩
theorem saveV_ok {x : Vt} (hx : VtOk x) (t v b bt : Int) (l : List En) : VtOk (saveV x t v b bt l) := by
  by_cases h : saveE x t v b bt l = 0
  · rw [saveV_eq h]
    have ok := save_ok hx h
    have hw : (readS x.1 st0).2 = x.1.length := by have := hx.whole; unfold readV at this; rw [this]
    have hs : (readS x.1 st0).1 = x.2.2 := by have := hx.whole; unfold readV at this; rw [this]
    have := readS_append _ x.1 (saveB x.2.2 t v l) st0 (Nat.le_refl _) hw
    have h2 := save_read ok []
    rw [List.append_nil, readS_nil] at h2
    rw [hs, h2] at this
    refine ⟨by simp; have := hx.sync; omega, ⟨ok.vote, ok.log⟩, ?_⟩
    unfold readV
    rw [this, List.length_append]
    simp
  · unfold saveV; rw [if_neg h]; exact hx
end Go.Proofs.Ytnbljcbfnplbaaa
