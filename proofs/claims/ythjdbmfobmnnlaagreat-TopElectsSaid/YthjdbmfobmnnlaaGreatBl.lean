/-
  Bl: several texts in one.
-/
import Derived.Test.YthjdbmfobmnnlaaGreatBj
import Derived.Test.YthjdbmfobmnnlaaGreatBk
import Derived.Test.YthjdbmfobmnnlaaGreatBd
import Derived.Test.YthjdbmfobmnnlaaGreatBa
/-
  What a disk keeps, saves, syncs and crashes: the plain law.
-/
namespace Go.Proofs.YthjdbmfobmnnlaaGreat
open Go.RowKit
set_option linter.unusedVariables false
/-! ### What a disk keeps -/
/-- A ballot and entries. -/
abbrev St := Int × Int × List En
def st0 : St := (0, 0, [])
def entOf (n : List Int) : En := (n.getD 1 0, n.getD 2 0, n.getD 3 0, n.getD 4 0, n.getD 5 0, n.getD 6 0, n.getD 7 0)
def numsOf (i : Int) (e : En) : List Int := [i, e.1, e.2.1, e.2.2.1, e.2.2.2.1, e.2.2.2.2.1, e.2.2.2.2.2.1, e.2.2.2.2.2.2]
theorem entOf_nums (i : Int) (e : En) : entOf (numsOf i e) = e := rfl
/-- A state behind the numbers of a record. -/
def stepN (s : St) (k : Int) (n : List Int) : Option St :=
  if k = 1 ∧ n.length = 2 then (if mayV (n.getD 0 0) (n.getD 1 0) = true then some (n.getD 0 0, n.getD 1 0, s.2.2) else none)
  else if k = 2 ∧ n.length = 8 ∧ n.getD 0 0 = (s.2.2.length : Int) + 1 then (if mayL 0 0 (s.2.2 ++ [entOf n]) = true then some (s.1, s.2.1, s.2.2 ++ [entOf n]) else none)
  else if k = 3 ∧ n.length = 1 ∧ n.getD 0 0 ≤ (s.2.2.length : Int) then some (s.1, s.2.1, s.2.2.take (n.getD 0 0).toNat)
  else none
/-- A state behind a record; none: it stops there. -/
def stepV (s : St) (f : Fr) : Option St := if (unpackP f.2).1 = 0 ∧ (unpackP f.2).2.2.length = 0 then stepN s f.1 (unpackP f.2).2.1 else none
/-- What records keep, and how many bytes of them: with so much fuel. -/
def readG : Nat → List UInt8 → St → St × Nat
  | 0, _, s => (s, 0)
  | k + 1, bs, s => if bs.length ≠ 0 ∧ getE bs = 0 then (match stepV s (getF bs) with
    | some s' => ((readG k (bs.drop (getN bs)) s').1, getN bs + (readG k (bs.drop (getN bs)) s').2)
    | none => (s, 0)) else (s, 0)
theorem readG_nil {k : Nat} {bs : List UInt8} {s : St} (h : bs.length = 0) : readG k bs s = (s, 0) := by
  cases k with
  | zero => rfl
  | succ k => unfold readG; rw [if_neg (fun h' => h'.1 h)]
theorem readG_err {k : Nat} {bs : List UInt8} {s : St} (h : getE bs ≠ 0) : readG k bs s = (s, 0) := by
  cases k with
  | zero => rfl
  | succ k => unfold readG; rw [if_neg (fun h' => h h'.2)]
theorem getE_len {bs : List UInt8} (h : getE bs = 0) : bs.length ≠ 0 := by have := getN_pos h; omega
theorem readG_none {k : Nat} {bs : List UInt8} {s : St} (h : getE bs = 0) (hs : stepV s (getF bs) = none) : readG k bs s = (s, 0) := by
  cases k with
  | zero => rfl
  | succ k => unfold readG; rw [if_pos ⟨getE_len h, h⟩, hs]
theorem readG_some {k : Nat} {bs : List UInt8} {s s' : St} (h : getE bs = 0) (hs : stepV s (getF bs) = some s') : readG (k + 1) bs s = ((readG k (bs.drop (getN bs)) s').1, getN bs + (readG k (bs.drop (getN bs)) s').2) := by
  rw [readG, if_pos ⟨getE_len h, h⟩, hs]
theorem readG_fuel : ∀ (k m : Nat) (bs : List UInt8) (s : St), bs.length ≤ k → bs.length ≤ m → readG k bs s = readG m bs s := by
  intro k
  induction k with
  | zero =>
    intro m bs s hk _
    rw [readG_nil (by omega), readG_nil (by omega)]
  | succ k ih =>
    intro m bs s hk hm
    by_cases he : getE bs = 0
    · have hp := getN_pos he
      cases hs : stepV s (getF bs) with
      | none => rw [readG_none he hs, readG_none he hs]
      | some s' =>
        cases m with
        | zero => omega
        | succ m =>
          rw [readG_some he hs, readG_some he hs, ih m (bs.drop (getN bs)) s' (by rw [List.length_drop]; omega) (by rw [List.length_drop]; omega)]
    · rw [readG_err he, readG_err he]
/-- What records keep behind a state, and how many bytes of them. -/
def readS (bs : List UInt8) (s : St) : St × Nat := readG bs.length bs s
def readV (bs : List UInt8) : St × Nat := readS bs st0
theorem readS_nil {s : St} : readS [] s = (s, 0) := rfl
theorem readS_err {bs : List UInt8} {s : St} (h : getE bs ≠ 0) : readS bs s = (s, 0) := readG_err h
theorem readS_none {bs : List UInt8} {s : St} (h : getE bs = 0) (hs : stepV s (getF bs) = none) : readS bs s = (s, 0) := readG_none h hs
theorem readS_some {bs : List UInt8} {s s' : St} (h : getE bs = 0) (hs : stepV s (getF bs) = some s') : readS bs s = ((readS (bs.drop (getN bs)) s').1, getN bs + (readS (bs.drop (getN bs)) s').2) := by
  have hp := getN_pos h
  obtain ⟨k, hk⟩ : ∃ k, bs.length = k + 1 := ⟨bs.length - 1, by omega⟩
  unfold readS
  rw [hk, readG_some h hs, readG_fuel k (bs.drop (getN bs)).length _ _ (by rw [List.length_drop]; omega) (Nat.le_refl _)]
theorem readS_le : ∀ (k : Nat) (bs : List UInt8) (s : St), bs.length ≤ k → (readS bs s).2 ≤ bs.length
  | 0, bs, s, h => by
    have : bs = [] := List.eq_nil_of_length_eq_zero (by omega)
    subst this
    exact Nat.le_refl _
  | k + 1, bs, s, h => by
    by_cases he : getE bs = 0
    · have hp := getN_pos he
      cases hs : stepV s (getF bs) with
      | none => rw [readS_none he hs]; exact Nat.zero_le _
      | some s' =>
        rw [readS_some he hs]
        have := readS_le k (bs.drop (getN bs)) s' (by rw [List.length_drop]; omega)
        rw [List.length_drop] at this
        show getN bs + _ ≤ _
        omega
    · rw [readS_err he]; exact Nat.zero_le _
theorem readV_le (bs : List UInt8) : (readV bs).2 ≤ bs.length := readS_le _ bs st0 (Nat.le_refl _)
/-- A state that may be. -/
def StOk (s : St) : Prop := mayV s.1 s.2.1 = true ∧ mayL 0 0 s.2.2 = true
theorem mayL_take {es : List En} (h : mayL 0 0 es = true) (k : Nat) : mayL 0 0 (es.take k) = true := by
  obtain ⟨h1, h2, h3, h4, h5, h6, h7⟩ := mayL_true h
  exact mayL_mk h1 h2 h3 h4 h5 (by rw [List.length_take]; omega) (rising_take h7 k)
theorem stepN_ok {s s' : St} {k : Int} {n : List Int} (hs : StOk s) (h : stepN s k n = some s') : StOk s' := by
  unfold stepN at h
  split at h
  · split at h
    · rename_i h1; cases h; exact ⟨h1, hs.2⟩
    · cases h
  · split at h
    · split at h
      · rename_i h1; cases h; exact ⟨hs.1, h1⟩
      · cases h
    · split at h
      · cases h; exact ⟨hs.1, mayL_take hs.2 _⟩
      · cases h
theorem stepV_ok {s s' : St} {f : Fr} (hs : StOk s) (h : stepV s f = some s') : StOk s' := by
  unfold stepV at h
  split at h
  · exact stepN_ok hs h
  · cases h
theorem st0_ok : StOk st0 := ⟨by decide, by decide⟩
theorem readS_ok : ∀ (k : Nat) (bs : List UInt8) (s : St), bs.length ≤ k → StOk s → StOk (readS bs s).1
  | 0, bs, s, h, hs => by
    have : bs = [] := List.eq_nil_of_length_eq_zero (by omega)
    subst this
    exact hs
  | k + 1, bs, s, h, hs => by
    by_cases he : getE bs = 0
    · have hp := getN_pos he
      cases hst : stepV s (getF bs) with
      | none => rw [readS_none he hst]; exact hs
      | some s' =>
        rw [readS_some he hst]
        exact readS_ok k (bs.drop (getN bs)) s' (by rw [List.length_drop]; omega) (stepV_ok hs hst)
    · rw [readS_err he]; exact hs
theorem readV_ok (bs : List UInt8) : StOk (readV bs).1 := readS_ok _ bs st0 (Nat.le_refl _) st0_ok
/-! ### Records -/
def recB (k : Int) (ns : List Int) : List UInt8 := putB (k, packX (ns, []))
/-- Numbers of a record. -/
def RecOk (k : Int) (ns : List Int) : Prop := 0 ≤ k ∧ k ≤ 255 ∧ ns.length ≤ 8 ∧ Fair ns
theorem rec_pack {ns : List Int} (hl : ns.length ≤ 8) (hf : Fair ns) : packE (ns, []) = 0 := by
  unfold packE
  rw [if_neg (by simp; omega), if_neg]
  intro h
  obtain ⟨m, hm, hs⟩ := List.any_eq_true.1 h
  have h1 := hf m hm
  have h2 := (sizeI_ok h1.1 h1.2).1
  have := of_decide_eq_true hs
  omega
theorem rec_put {k : Int} {ns : List Int} (h : RecOk k ns) : putE (k, packX (ns, [])) = 0 := by
  obtain ⟨h1, h2, h3, h4⟩ := h
  have hl := packX_length (ns, [])
  have hs := sum_le (ns := ns) h4
  unfold putE
  rw [if_neg (by simp; omega), if_neg (by simp at hl ⊢; omega)]
theorem rec_length {k : Int} {ns : List Int} (h : RecOk k ns) : 8 ≤ (recB k ns).length ∧ (recB k ns).length ≤ 83 := by
  have h1 := putB_length (rec_put h)
  have hl := packX_length (ns, [])
  have hs := sum_le (ns := ns) h.2.2.2
  have := h.2.2.1
  unfold recB
  simp at hl
  rw [h1]
  simp only
  omega
theorem rec_get {k : Int} {ns : List Int} (h : RecOk k ns) (more : List UInt8) : getE (recB k ns ++ more) = 0 ∧ getN (recB k ns ++ more) = (recB k ns).length ∧ getF (recB k ns ++ more) = (k, packX (ns, [])) := putB_get (rec_put h) more
theorem rec_step {k : Int} {ns : List Int} (h : RecOk k ns) (s : St) : stepV s (k, packX (ns, [])) = stepN s k ns := by
  have := unpackP_put (rec_pack h.2.2.1 h.2.2.2)
  unfold stepV
  simp only [this]
  rw [if_pos (by simp)]
theorem rec_read {k : Int} {ns : List Int} (h : RecOk k ns) {s s' : St} (hs : stepN s k ns = some s') (more : List UInt8) : readS (recB k ns ++ more) s = ((readS more s').1, (recB k ns).length + (readS more s').2) := by
  obtain ⟨h1, h2, h3⟩ := rec_get h more
  rw [readS_some h1 (s' := s') (by rw [h3, rec_step h, hs]), h2, List.drop_left]
theorem rec_torn {k : Int} {ns : List Int} (h : RecOk k ns) {X Y : List UInt8} (hX : recB k ns = X ++ Y) (hY : 0 < Y.length) (s : St) : readS X s = (s, 0) := by
  by_cases h0 : X.length = 0
  · rw [List.eq_nil_of_length_eq_zero h0, readS_nil]
  · have hlen := congrArg List.length hX
    rw [List.length_append] at hlen
    have e : X = (recB k ns).take X.length := by rw [hX, List.take_left]
    have := cut_more (rec_put h) X.length (by omega) (by show X.length < (recB k ns).length; omega)
    refine readS_err ?_
    rw [e]
    unfold recB at this ⊢
    rw [this]
    decide
/-! ### What is saved -/
def commonN : List En → List En → Nat
  | e :: es, f :: fs => if e = f then commonN es fs + 1 else 0
  | _, _ => 0
theorem commonN_spec : ∀ (es fs : List En), commonN es fs ≤ es.length ∧ commonN es fs ≤ fs.length ∧ es.take (commonN es fs) = fs.take (commonN es fs)
  | [], fs => by simp [commonN]
  | e :: es, [] => by simp [commonN]
  | e :: es, f :: fs => by
    obtain ⟨h1, h2, h3⟩ := commonN_spec es fs
    unfold commonN
    by_cases h : e = f
    · rw [if_pos h]
      refine ⟨by simp; omega, by simp; omega, ?_⟩
      rw [List.take_succ_cons, List.take_succ_cons, h, h3]
    · rw [if_neg h]; simp
theorem commonN_stop : ∀ (es fs : List En), commonN es fs < es.length → commonN es fs < fs.length → es[commonN es fs]? ≠ fs[commonN es fs]?
  | [], fs, h, _ => by simp at h
  | e :: es, [], _, h => by simp at h
  | e :: es, f :: fs, h1, h2 => by
    unfold commonN at h1 h2 ⊢
    by_cases h : e = f
    · rw [if_pos h] at h1 h2 ⊢
      simp at h1 h2
      have := commonN_stop es fs (by omega) (by omega)
      simpa using this
    · rw [if_neg h]
      simpa using h
/-- The records of entries behind so many. -/
def entRecs (i : Nat) : List En → List UInt8
  | [] => []
  | e :: es => recB 2 (numsOf ((i + 1 : Nat) : Int) e) ++ entRecs (i + 1) es
/-- The command's numbers may be. -/
def EnFair (e : En) : Prop := Fair [e.2.1, e.2.2.1, e.2.2.2.1, e.2.2.2.2.1, e.2.2.2.2.2.1, e.2.2.2.2.2.2]
instance decFair (e : En) : Decidable (EnFair e) := by unfold EnFair Fair; infer_instance
theorem ent_rec {l : List En} (hm : mayL 0 0 l = true) {i : Nat} (hi : i < l.length) (hf : EnFair (l[i]'hi)) : RecOk 2 (numsOf ((i + 1 : Nat) : Int) (l[i]'hi)) := by
  obtain ⟨_, _, _, _, _, h6, h7⟩ := mayL_true hm
  have ht := rising_at hi h7
  refine ⟨by omega, by omega, by simp [numsOf], fun n hn => ?_⟩
  unfold EnFair at hf
  generalize (l[i]'hi) = e at hf hn ht
  unfold numsOf at hn
  rcases List.mem_cons.1 hn with rfl | hn
  · omega
  · rcases List.mem_cons.1 hn with rfl | hn
    · omega
    · exact hf n hn
theorem ent_step {l : List En} (hm : mayL 0 0 l = true) {i : Nat} (hi : i < l.length) (t v : Int) : stepN (t, v, l.take i) 2 (numsOf ((i + 1 : Nat) : Int) (l[i]'hi)) = some (t, v, l.take (i + 1)) := by
  unfold stepN
  have hl : (l.take i).length = i := by rw [List.length_take]; omega
  simp only [hl]
  rw [if_neg (fun h => absurd h.1 (by decide)), if_pos ⟨trivial, rfl, by simp [numsOf]⟩, entOf_nums, ← List.take_succ_eq_append_getElem hi, if_pos (mayL_take hm _)]
/-- Which states are come by, up to the new one. -/
def Between (h : St) (t v : Int) (l : List En) (s : St) : Prop :=
  ((s.1 = h.1 ∧ s.2.1 = h.2.1) ∨ (s.1 = t ∧ s.2.1 = v)) ∧ ((∃ k, commonN h.2.2 l ≤ k ∧ s.2.2 = h.2.2.take k) ∨ (∃ k, commonN h.2.2 l ≤ k ∧ s.2.2 = l.take k))
theorem entRecs_read {t v : Int} {l : List En} (hm : mayL 0 0 l = true) (hf : ∀ e ∈ l, EnFair e) : ∀ (m i : Nat), i + m = l.length → ∀ more : List UInt8,
    readS (entRecs i (l.drop i) ++ more) (t, v, l.take i) = ((readS more (t, v, l)).1, (entRecs i (l.drop i)).length + (readS more (t, v, l)).2)
  | 0, i, hi, more => by
    rw [List.drop_of_length_le (by omega), List.take_of_length_le (by omega)]
    simp [entRecs]
  | m + 1, i, hi, more => by
    have hil : i < l.length := by omega
    rw [List.drop_eq_getElem_cons hil, entRecs, List.append_assoc, rec_read (ent_rec hm hil (hf _ (List.getElem_mem hil))) (ent_step hm hil t v), entRecs_read hm hf m (i + 1) (by omega) more, List.length_append]
    simp [Nat.add_assoc]
theorem entRecs_torn {h : St} {t v : Int} {l : List En} (hm : mayL 0 0 l = true) (hf : ∀ e ∈ l, EnFair e) : ∀ (m i : Nat), i + m = l.length → commonN h.2.2 l ≤ i → ∀ X Y : List UInt8, entRecs i (l.drop i) = X ++ Y →
    Between h t v l (readS X (t, v, l.take i)).1
  | 0, i, hi, hc, X, Y, hX => by
    rw [List.drop_of_length_le (by omega)] at hX
    have : X = [] := by
      cases X with
      | nil => rfl
      | cons x X => simp [entRecs] at hX
    subst this
    rw [readS_nil]
    exact ⟨.inr ⟨rfl, rfl⟩, .inr ⟨i, hc, rfl⟩⟩
  | m + 1, i, hi, hc, X, Y, hX => by
    have hil : i < l.length := by omega
    have hr := ent_rec hm hil (hf _ (List.getElem_mem hil))
    rw [List.drop_eq_getElem_cons hil, entRecs] at hX
    rcases List.append_eq_append_iff.1 hX with ⟨Z, h1, h2⟩ | ⟨Z, h1, h2⟩
    · rw [h1, rec_read hr (ent_step hm hil t v)]
      exact entRecs_torn hm hf m (i + 1) (by omega) (by omega) Z Y h2
    · by_cases hZ : Z = []
      · subst hZ
        rw [List.append_nil] at h1
        have := rec_read hr (ent_step hm hil t v) []
        rw [List.append_nil, h1, readS_nil] at this
        rw [this]
        exact ⟨.inr ⟨rfl, rfl⟩, .inr ⟨i + 1, by omega, rfl⟩⟩
      · rw [rec_torn hr h1 (List.length_pos_iff.2 hZ)]
        exact ⟨.inr ⟨rfl, rfl⟩, .inr ⟨i, hc, rfl⟩⟩
/-- What Save writes behind what is held. -/
def saveB (h : St) (t v : Int) (l : List En) : List UInt8 :=
  (if h.1 = t ∧ h.2.1 = v then [] else recB 1 [t, v]) ++ ((if commonN h.2.2 l < h.2.2.length then recB 3 [((commonN h.2.2 l : Nat) : Int)] else []) ++ entRecs (commonN h.2.2 l) (l.drop (commonN h.2.2 l)))
theorem ballot_rec {t v : Int} (h : mayV t v = true) : RecOk 1 [t, v] := by
  unfold mayV memberB at h
  simp at h
  refine ⟨by omega, by omega, by simp, fun n hn => ?_⟩
  simp at hn
  rcases hn with rfl | rfl
  · omega
  · omega
theorem ballot_step {t v : Int} (h : mayV t v = true) (s : St) : stepN s 1 [t, v] = some (t, v, s.2.2) := by
  unfold stepN
  rw [if_pos ⟨rfl, rfl⟩]
  simp [h]
theorem left_rec {n : Nat} (h : n ≤ 64) : RecOk 3 [((n : Nat) : Int)] := ⟨by omega, by omega, by simp, fun m hm => by simp at hm; omega⟩
theorem left_step {n : Nat} {s : St} (h : n ≤ s.2.2.length) : stepN s 3 [((n : Nat) : Int)] = some (s.1, s.2.1, s.2.2.take n) := by
  unfold stepN
  rw [if_neg (fun h => absurd h.1 (by decide)), if_neg (fun h => absurd h.1 (by decide)), if_pos ⟨rfl, rfl, by simp; omega⟩]
  simp
/-- What may be saved. -/
structure SaveOk (h : St) (t v : Int) (l : List En) : Prop where
  held : StOk h
  vote : mayV t v = true
  log : mayL 0 0 l = true
  fair : ∀ e ∈ l, EnFair e
theorem save_tail {h : St} {t v : Int} {l : List En} (ok : SaveOk h t v l) (more : List UInt8) :
    readS ((if commonN h.2.2 l < h.2.2.length then recB 3 [((commonN h.2.2 l : Nat) : Int)] else []) ++ entRecs (commonN h.2.2 l) (l.drop (commonN h.2.2 l)) ++ more) (t, v, h.2.2) =
      ((readS more (t, v, l)).1, ((if commonN h.2.2 l < h.2.2.length then recB 3 [((commonN h.2.2 l : Nat) : Int)] else []) ++ entRecs (commonN h.2.2 l) (l.drop (commonN h.2.2 l))).length + (readS more (t, v, l)).2) := by
  obtain ⟨c1, c2, c3⟩ := commonN_spec h.2.2 l
  have h64 := (mayL_true ok.held.2).2.2.2.2.2.1
  have hE := entRecs_read (t := t) (v := v) ok.log ok.fair (l.length - commonN h.2.2 l) (commonN h.2.2 l) (by omega) more
  by_cases hlt : commonN h.2.2 l < h.2.2.length
  · rw [if_pos hlt, List.append_assoc, rec_read (left_rec (by omega)) (left_step (s := (t, v, h.2.2)) c1)]
    simp only
    rw [c3, hE, List.length_append]
    simp [Nat.add_assoc]
  · rw [if_neg hlt, List.nil_append]
    have e : h.2.2 = l.take (commonN h.2.2 l) := by rw [← c3, List.take_of_length_le (by omega)]
    rw [show (t, v, h.2.2) = (t, v, l.take (commonN h.2.2 l)) by rw [← e], hE]
theorem save_read {h : St} {t v : Int} {l : List En} (ok : SaveOk h t v l) (more : List UInt8) : readS (saveB h t v l ++ more) h = ((readS more (t, v, l)).1, (saveB h t v l).length + (readS more (t, v, l)).2) := by
  have hT := save_tail ok more
  unfold saveB
  by_cases hb : h.1 = t ∧ h.2.1 = v
  · rw [if_pos hb, List.nil_append]
    have e : h = (t, v, h.2.2) := by rw [← hb.1, ← hb.2]
    rw [← e] at hT
    exact hT
  · rw [if_neg hb, List.append_assoc, rec_read (ballot_rec ok.vote) (ballot_step ok.vote h), hT, List.length_append]
    simp [Nat.add_assoc]
theorem save_torn {h : St} {t v : Int} {l : List En} (ok : SaveOk h t v l) {X Y : List UInt8} (hX : saveB h t v l = X ++ Y) : Between h t v l (readS X h).1 := by
  obtain ⟨c1, c2, c3⟩ := commonN_spec h.2.2 l
  have h64 := (mayL_true ok.held.2).2.2.2.2.2.1
  -- behind the ballot's record
  have tail : ∀ X Y : List UInt8, (if commonN h.2.2 l < h.2.2.length then recB 3 [((commonN h.2.2 l : Nat) : Int)] else []) ++ entRecs (commonN h.2.2 l) (l.drop (commonN h.2.2 l)) = X ++ Y → Between h t v l (readS X (t, v, h.2.2)).1 := by
    intro X Y hX
    have whole : Between h t v l (t, v, h.2.2) := ⟨.inr ⟨rfl, rfl⟩, .inl ⟨h.2.2.length, c1, by rw [List.take_length]⟩⟩
    by_cases hlt : commonN h.2.2 l < h.2.2.length
    · rw [if_pos hlt] at hX
      have hr := left_rec (n := commonN h.2.2 l) (by omega)
      have hs := left_step (s := (t, v, h.2.2)) c1
      simp only at hs
      rw [c3] at hs
      rcases List.append_eq_append_iff.1 hX with ⟨Z, h1, h2⟩ | ⟨Z, h1, h2⟩
      · rw [h1, rec_read hr hs]
        exact entRecs_torn (h := h) ok.log ok.fair (l.length - commonN h.2.2 l) (commonN h.2.2 l) (by omega) (Nat.le_refl _) Z Y h2
      · by_cases hZ : Z = []
        · subst hZ
          rw [List.append_nil] at h1
          have := rec_read hr hs []
          rw [List.append_nil, h1, readS_nil] at this
          rw [this]
          exact ⟨.inr ⟨rfl, rfl⟩, .inr ⟨commonN h.2.2 l, Nat.le_refl _, rfl⟩⟩
        · rw [rec_torn hr h1 (List.length_pos_iff.2 hZ)]
          exact whole
    · rw [if_neg hlt, List.nil_append] at hX
      have e : h.2.2 = l.take (commonN h.2.2 l) := by rw [← c3, List.take_of_length_le (by omega)]
      have := entRecs_torn (h := h) (t := t) (v := v) ok.log ok.fair (l.length - commonN h.2.2 l) (commonN h.2.2 l) (by omega) (Nat.le_refl _) X Y hX
      rwa [← e] at this
  unfold saveB at hX
  by_cases hb : h.1 = t ∧ h.2.1 = v
  · rw [if_pos hb, List.nil_append] at hX
    have e : h = (t, v, h.2.2) := by rw [← hb.1, ← hb.2]
    have := tail X Y hX
    rwa [← e] at this
  · rw [if_neg hb] at hX
    have hr := ballot_rec ok.vote
    have hs := ballot_step ok.vote h
    rcases List.append_eq_append_iff.1 hX with ⟨Z, h1, h2⟩ | ⟨Z, h1, h2⟩
    · rw [h1, rec_read hr hs]
      exact tail Z Y h2
    · by_cases hZ : Z = []
      · subst hZ
        rw [List.append_nil] at h1
        have := rec_read hr hs []
        rw [List.append_nil, h1, readS_nil] at this
        rw [this]
        exact ⟨.inr ⟨rfl, rfl⟩, .inl ⟨h.2.2.length, c1, by rw [List.take_length]⟩⟩
      · rw [rec_torn hr h1 (List.length_pos_iff.2 hZ)]
        exact ⟨.inl ⟨rfl, rfl⟩, .inl ⟨h.2.2.length, c1, by rw [List.take_length]⟩⟩
/-! ### A disk -/
/-- Its bytes, how many of them are synced, what is held. -/
abbrev Vt := List UInt8 × Nat × St
def vt0 : Vt := ([], 0, st0)
def oddE (e : En) : Bool := !decide (EnFair e ∧ 0 ≤ e.1 ∧ e.1 < 72057594037927936)
/-- The error of a save. -/
def saveE (x : Vt) (t v b bt : Int) (l : List En) : Int :=
  if mayV t v = true ∧ mayL b bt l = true ∧ b = 0 ∧ (∀ e ∈ l, EnFair e) then (if 65536 < (x.1 ++ saveB x.2.2 t v l).length then 7 else 0) else 1
def saveV (x : Vt) (t v b bt : Int) (l : List En) : Vt := if saveE x t v b bt l = 0 then (x.1 ++ saveB x.2.2 t v l, x.2.1, (t, v, l)) else x
def syncV (x : Vt) : Vt := (x.1, x.1.length, x.2.2)
def crashN (x : Vt) (keep : Int) : Nat := x.2.1 + (max keep 0 % ((x.1.length : Int) - (x.2.1 : Int) + 1)).toNat
def crashV (x : Vt) (keep : Int) : Vt := (x.1.take (readV (x.1.take (crashN x keep))).2, (readV (x.1.take (crashN x keep))).2, (readV (x.1.take (crashN x keep))).1)
/-- A disk that came by saves, syncs and crashes. -/
structure VtOk (x : Vt) : Prop where
  sync : x.2.1 ≤ x.1.length
  held : StOk x.2.2
  whole : readV x.1 = (x.2.2, x.1.length)
theorem vt0_ok : VtOk vt0 := ⟨Nat.le_refl _, st0_ok, rfl⟩
/-- What is read of what was read is the same. -/
theorem readS_take : ∀ (k : Nat) (bs : List UInt8) (s : St), bs.length ≤ k → readS (bs.take (readS bs s).2) s = ((readS bs s).1, (readS bs s).2)
  | 0, bs, s, h => by
    have : bs = [] := List.eq_nil_of_length_eq_zero (by omega)
    subst this
    rfl
  | k + 1, bs, s, h => by
    by_cases he : getE bs = 0
    · have hp := getN_pos he
      cases hst : stepV s (getF bs) with
      | none =>
        rw [readS_none he hst, List.take_zero, readS_nil]
      | some s' =>
        have ih := readS_take k (bs.drop (getN bs)) s' (by rw [List.length_drop]; omega)
        have hr := readS_some he hst
        obtain ⟨g1, g2⟩ := get_put he
        have hl : (putB (getF bs)).length = getN bs := by rw [g2, List.length_take]; omega
        have e : bs.take (readS bs s).2 = putB (getF bs) ++ (bs.drop (getN bs)).take (readS (bs.drop (getN bs)) s').2 := by
          rw [hr, g2]
          simp only
          rw [List.take_add]
        obtain ⟨p1, p2, p3⟩ := putB_get g1 ((bs.drop (getN bs)).take (readS (bs.drop (getN bs)) s').2)
        have e2 := readS_some (bs := putB (getF bs) ++ (bs.drop (getN bs)).take (readS (bs.drop (getN bs)) s').2) (s := s) (s' := s') p1 (by rw [p3, hst])
        rw [p2, List.drop_left, ih, hl] at e2
        rw [e, e2, hr]
    · rw [readS_err he, List.take_zero, readS_nil]
theorem crashN_le {x : Vt} (h : x.2.1 ≤ x.1.length) (keep : Int) : x.2.1 ≤ crashN x keep ∧ crashN x keep ≤ x.1.length := by
  unfold crashN
  have h1 : 0 < (x.1.length : Int) - (x.2.1 : Int) + 1 := by omega
  have h2 := Int.emod_nonneg (max keep 0) (show (x.1.length : Int) - (x.2.1 : Int) + 1 ≠ 0 by omega)
  have h3 := Int.emod_lt_of_pos (max keep 0) h1
  omega
theorem crashV_ok {x : Vt} (h : VtOk x) (keep : Int) : VtOk (crashV x keep) := by
  have hl := readV_le (x.1.take (crashN x keep))
  have hc := (crashN_le h.sync keep).2
  rw [List.length_take] at hl
  refine ⟨?_, readV_ok _, ?_⟩
  · unfold crashV
    simp only
    rw [List.length_take]
    omega
  · have := readS_take _ (x.1.take (crashN x keep)) st0 (Nat.le_refl _)
    unfold crashV
    simp only
    have e : (x.1.take (crashN x keep)).take (readV (x.1.take (crashN x keep))).2 = x.1.take (readV (x.1.take (crashN x keep))).2 := by
      rw [List.take_take, Nat.min_eq_left (by omega)]
    rw [← e]
    unfold readV at this ⊢
    rw [this]
    congr 1
    rw [List.length_take, List.length_take]
    have : (readS (List.take (crashN x keep) x.1) st0).2 ≤ min (crashN x keep) x.1.length := hl
    omega
theorem syncV_ok {x : Vt} (h : VtOk x) : VtOk (syncV x) := ⟨Nat.le_refl _, h.held, h.whole⟩
theorem saveE_zero {x : Vt} {t v b bt : Int} {l : List En} (h : saveE x t v b bt l = 0) : mayV t v = true ∧ mayL b bt l = true ∧ b = 0 ∧ bt = 0 ∧ mayL 0 0 l = true ∧ (∀ e ∈ l, EnFair e) ∧ (x.1 ++ saveB x.2.2 t v l).length ≤ 65536 := by
  unfold saveE at h
  split at h
  · rename_i h1
    obtain ⟨h1, h2, h3, h4⟩ := h1
    split at h
    · cases h
    · rename_i h5
      subst h3
      have hbt : bt = 0 := (mayL_true h2).2.2.2.2.1 rfl
      subst hbt
      exact ⟨h1, h2, rfl, rfl, h2, h4, by omega⟩
  · cases h
theorem saveV_eq {x : Vt} {t v b bt : Int} {l : List En} (h : saveE x t v b bt l = 0) : saveV x t v b bt l = (x.1 ++ saveB x.2.2 t v l, x.2.1, (t, v, l)) := if_pos h
theorem readS_append : ∀ (k : Nat) (bs cs : List UInt8) (s : St), bs.length ≤ k → (readS bs s).2 = bs.length → readS (bs ++ cs) s = ((readS cs (readS bs s).1).1, bs.length + (readS cs (readS bs s).1).2)
  | 0, bs, cs, s, h, _ => by
    have : bs = [] := List.eq_nil_of_length_eq_zero (by omega)
    subst this
    simp [readS_nil]
  | k + 1, bs, cs, s, h, hw => by
    by_cases h0 : bs.length = 0
    · have : bs = [] := List.eq_nil_of_length_eq_zero h0
      subst this
      simp [readS_nil]
    by_cases he : getE bs = 0
    · have hp := getN_pos he
      cases hst : stepV s (getF bs) with
      | none => rw [readS_none he hst] at hw; omega
      | some s' =>
        have hr := readS_some he hst
        rw [hr] at hw ⊢
        simp only at hw ⊢
        obtain ⟨g1, g2⟩ := get_put he
        have hl : (putB (getF bs)).length = getN bs := by rw [g2, List.length_take]; omega
        have ih := readS_append k (bs.drop (getN bs)) cs s' (by rw [List.length_drop]; omega) (by rw [List.length_drop]; omega)
        have e : bs ++ cs = putB (getF bs) ++ (bs.drop (getN bs) ++ cs) := by rw [g2, ← List.append_assoc, List.take_append_drop]
        obtain ⟨p1, p2, p3⟩ := putB_get g1 (bs.drop (getN bs) ++ cs)
        have e2 := readS_some (bs := putB (getF bs) ++ (bs.drop (getN bs) ++ cs)) (s := s) (s' := s') p1 (by rw [p3, hst])
        rw [p2, List.drop_left, ih, hl] at e2
        rw [e, e2, List.length_drop]
        simp only [Prod.mk.injEq, true_and]
        omega
    · rw [readS_err he] at hw; omega
theorem save_ok {x : Vt} (hx : VtOk x) {t v b bt : Int} {l : List En} (h : saveE x t v b bt l = 0) : SaveOk x.2.2 t v l := by
  obtain ⟨h1, _, _, _, h2, h3, _⟩ := saveE_zero h
  exact ⟨hx.held, h1, h2, h3⟩
theorem saveV_ok {x : Vt} (hx : VtOk x) (t v b bt : Int) (l : List En) : VtOk (saveV x t v b bt l) := by
  by_cases h : saveE x t v b bt l = 0
  · rw [saveV_eq h]
    have ok := save_ok hx h
    have hw : (readS x.1 st0).2 = x.1.length := by have := hx.whole; unfold readV at this; rw [this]
    have hs : (readS x.1 st0).1 = x.2.2 := by have := hx.whole; unfold readV at this; rw [this]
    have := readS_append _ x.1 (saveB x.2.2 t v l) st0 (Nat.le_refl _) hw
    have h2 := save_read ok []
    rw [List.append_nil, readS_nil] at h2
    rw [hs, h2] at this
    refine ⟨by simp; have := hx.sync; omega, ⟨ok.vote, ok.log⟩, ?_⟩
    unfold readV
    rw [this, List.length_append]
    simp
  · unfold saveV; rw [if_neg h]; exact hx
end Go.Proofs.YthjdbmfobmnnlaaGreat

/-
  Numbers of an entry; whether one may not be.
-/
namespace Go.Proofs.YthjdbmfobmnnlaaGreat
open Go.RowKit
set_option linter.unusedVariables false
theorem oddN_any (n : Int) (hn : (Lit.int .i64 n).wf = true) (w : World) : Calls Tryz.prog 180 #[.int .i64 n] w fun e w' => e = .returned (.bool (decide (sizeI n < 0))) ∧ w' = w := by
  have HS : Hid (∀ W, Calls Tryz.prog 181 #[.int .i64 n] W fun e w' => e = .returned (.int .i64 (sizeI n)) ∧ w' = W) := fun W => fsize_any n hn W
  generalize sizeI n = s at HS
  go_enter Tryz.func180, Tryz.ntmps180
  go_wp2_with (go_at_call 181; refine (HS.out _).mono ?_; rintro e w' ⟨rfl, rfl⟩)
  go_ret
  exact ⟨rfl, rfl⟩
set_option maxHeartbeats 1600000 in
theorem indexN_any (a : Option Addr) (cap : Nat) (ns : List Int) (w : World) (hi : IntsIn w a cap ns) (hl : ns.length ≤ 1000000) :
    Calls Tryz.prog 145 #[.slice a ns.length cap, .func (.func 180) #[] #[]] w fun e w' => (∃ i : Int, e = .returned (.int .i64 i) ∧ -1 ≤ i ∧ decide (0 ≤ i) = ns.any fun n => decide (sizeI n < 0)) ∧ w' = w := by
  have hcells := hi.cells
  have HW := Lib.hid hi.wf
  clear hi
  go_enter Tryz.func145, Tryz.ntmps145
  go_wp2
  go_loopw [8] (fun i wr => ∃ (k : Nat), k ≤ ns.length ∧ i = .int .i64 k ∧ Hid ((ns.take k).any (fun n => decide (sizeI n < 0)) = false) ∧ wr = w) (fun i _ => ns.length - (intOf i).toNat)
  case atStart => exact ⟨0, by omega, rfl, by rw [Hid]; simp, rfl⟩
  case round =>
    obtain ⟨k, hk, rfl, HP, rfl⟩ := hrel
    by_cases hlt : k < ns.length
    · obtain ⟨b, off, rfl, hblt, hc⟩ := hcells.at hlt
      have hwf := HW.out _ (List.getElem_mem hlt)
      have HS : Hid (∀ W, Calls Tryz.prog 180 #[.int .i64 (ns[k]'hlt)] W fun e w' => e = .returned (.bool (decide (sizeI (ns[k]'hlt) < 0))) ∧ w' = W) := fun W => oddN_any _ hwf W
      have hk0 : (0 : Int) ≤ (k : Int) := by omega
      have hk1 : (k : Int) < (ns.length : Int) := by omega
      by_cases hp : sizeI (ns[k]'hlt) < 0
      · have HR := Lib.hid (any_stops (p := fun n => decide (sizeI n < 0)) hlt (decide_eq_true hp))
        rw [decide_eq_true hp] at HS
        clear hp hwf
        generalize (ns[k]'hlt) = x at HS hc
        go_wp2_with (go_at_call 180; refine (HS.out _).mono ?_; rintro e w' ⟨rfl, rfl⟩)
        go_ret
        exact ⟨⟨_, rfl, by omega, by rw [HR.out]; simp⟩, rfl⟩
      · have HR := Lib.hid (any_goes (p := fun n => decide (sizeI n < 0)) hlt HP.out (decide_eq_false hp))
        rw [decide_eq_false hp] at HS
        clear hp hwf HP
        generalize (ns[k]'hlt) = x at HS hc
        go_wp2_with (go_at_call 180; refine (HS.out _).mono ?_; rintro e w' ⟨rfl, rfl⟩)
        go_roundw
        case rel => exact ⟨k + 1, by omega, by go_num, HR, trivial⟩
        case measure => simp [intOf]; omega
    · have hk : k = ns.length := by omega
      subst hk
      have HP2 : Hid (ns.any (fun n => decide (sizeI n < 0)) = false) := by have := HP.out; rwa [List.take_length] at this
      go_wp2
      go_ret
      exact ⟨⟨-1, rfl, by omega, by rw [HP2.out]; rfl⟩, rfl⟩
theorem containsN_any (a : Option Addr) (cap : Nat) (ns : List Int) (w : World) (hi : IntsIn w a cap ns) (hl : ns.length ≤ 1000000) :
    Calls Tryz.prog 179 #[.slice a ns.length cap, .func (.func 180) #[] #[]] w fun e w' => e = .returned (.bool (ns.any fun n => decide (sizeI n < 0))) ∧ w' = w := by
  have HS := Lib.hid (indexN_any a cap ns w hi hl)
  clear hi
  go_enter Tryz.func179, Tryz.ntmps179
  go_wp2_with (go_at_call 145; refine HS.out.mono ?_; rintro e w' ⟨⟨i, rfl, hi1, hi2⟩, rfl⟩; replace hi2 := Lib.hid hi2)
  go_ret
  exact ⟨ret_bool hi2.out, rfl⟩

/-- A row that was just made. -/
theorem own_new (w : World) (xs : List Value) (e : TypeId) (n : Nat) {base : Nat} (hb : base ≤ w.heap.size) (hl : xs.length = n) (hm : n ≤ maxLen) : (w.alloc (.cells xs.toArray e)).ownsRow base e 1 (.slice (some ⟨w.heap.size, 0, none⟩) n n) n xs := by
  subst hl
  exact ⟨by omega, .inr ⟨_, _, xs.toArray, rfl, hb, heap_alloc_new w _, Nat.le_refl _, hm, by simp, by simp⟩⟩
/-- An entry as a value. -/
def entA (e : En) : Value := .agg #[.int .i64 e.1, .int .i64 e.2.1, .int .i64 e.2.2.1, .int .i64 e.2.2.2.1, .int .i64 e.2.2.2.2.1, .int .i64 e.2.2.2.2.2.1, .int .i64 e.2.2.2.2.2.2]
def EnWf (e : En) : Prop := ∀ n ∈ numsOf 0 e, (Lit.int .i64 n).wf = true
set_option maxRecDepth 100000 in
set_option maxHeartbeats 3200000 in
theorem numbers_any (i : Int) (e : En) (w : World) : Calls Tryz.prog 124 #[.int .i64 i, entA e] w (RetRow 3 1 8 ((numsOf i e).map intV) w) := by
  obtain ⟨x0, x1, x2, x3, x4, x5, x6⟩ := e
  unfold entA
  simp only
  go_enter Tryz.func124, Tryz.ntmps124
  go_wp2
  go_ret
  have hb2 := below2 w (.cells #[.int .i64 x0, .int .i64 x1, .int .i64 x2, .int .i64 x3, .int .i64 x4, .int .i64 x5, .int .i64 x6] 82) (.cells #[.int .i64 x1, .int .i64 x2, .int .i64 x3, .int .i64 x4, .int .i64 x5, .int .i64 x6] 80)
  have hb3 := hb2.alloc hb2.size (.cells #[.int .i64 i, .int .i64 x0, .int .i64 x1, .int .i64 x2, .int .i64 x3, .int .i64 x4, .int .i64 x5, .int .i64 x6] 3)
  have ho := own_new ((w.alloc (.cells #[.int .i64 x0, .int .i64 x1, .int .i64 x2, .int .i64 x3, .int .i64 x4, .int .i64 x5, .int .i64 x6] 82)).alloc (.cells #[.int .i64 x1, .int .i64 x2, .int .i64 x3, .int .i64 x4, .int .i64 x5, .int .i64 x6] 80)) [.int .i64 i, .int .i64 x0, .int .i64 x1, .int .i64 x2, .int .i64 x3, .int .i64 x4, .int .i64 x5, .int .i64 x6] 3 8 hb2.size rfl (by unfold maxLen; omega)
  rw [show ((w.alloc (.cells #[.int .i64 x0, .int .i64 x1, .int .i64 x2, .int .i64 x3, .int .i64 x4, .int .i64 x5, .int .i64 x6] 82)).alloc (.cells #[.int .i64 x1, .int .i64 x2, .int .i64 x3, .int .i64 x4, .int .i64 x5, .int .i64 x6] 80)).heap.size = w.heap.size + 1 + 1 by simp] at ho
  exact ⟨_, _, rfl, ho, hb3⟩
theorem sizeI_neg {n : Int} : sizeI n < 0 ↔ ¬ (0 ≤ n ∧ n < 72057594037927936) := by
  by_cases h : n < 0 ∨ 72057594037927936 ≤ n
  · rw [sizeI_bad h]; omega
  · have := (sizeI_ok (n := n) (by omega) (by omega)).1
    rw [this]; omega
theorem odd_nums (e : En) : (numsOf 0 e).any (fun n => decide (sizeI n < 0)) = oddE e := by
  unfold oddE
  rw [Bool.eq_iff_iff, List.any_eq_true]
  simp only [Bool.not_eq_true', decide_eq_false_iff_not, decide_eq_true_eq, sizeI_neg]
  obtain ⟨x0, x1, x2, x3, x4, x5, x6⟩ := e
  unfold EnFair Fair numsOf
  simp only [List.mem_cons, List.not_mem_nil, or_false, exists_eq_or_imp, exists_eq_left, forall_eq_or_imp, forall_eq]
  omega
set_option maxRecDepth 100000 in
set_option maxHeartbeats 3200000 in
theorem oddEn_any (e : En) (w : World) (hwf : EnWf e) : Calls Tryz.prog 122 #[entA e] w fun en w' => en = .returned (.bool (oddE e)) ∧ Below w.heap.size w w' := by
  have HN : Hid (∀ W, Calls Tryz.prog 124 #[.int .i64 0, entA e] W (RetRow 3 1 8 ((numsOf 0 e).map intV) W)) := fun W => numbers_any 0 e W
  have HC : Hid (∀ W a c, W.ownsRow w.heap.size 3 1 (.slice a 8 c) 8 ((numsOf 0 e).map intV) → Calls Tryz.prog 179 #[.slice a 8 c, .func (.func 180) #[] #[]] W fun en w' => en = .returned (.bool (oddE e)) ∧ w' = W) := fun W a c h => by
    have := containsN_any a c (numsOf 0 e) W ⟨RowAt.of_own h, own_le' h, own_none h, hwf⟩ (by show 8 ≤ _; omega)
    rwa [odd_nums] at this
  generalize oddE e = o at HC
  clear hwf
  obtain ⟨x0, x1, x2, x3, x4, x5, x6⟩ := e
  unfold entA at HN ⊢
  simp only at HN ⊢
  go_enter Tryz.func122, Tryz.ntmps122
  go_wp2_with (first
    | (go_at_call 124; refine (HN.out _).mono ?_; rintro en w1 ⟨a1, c1, rfl, own1, hb1⟩; have hb := alloc_below hb1)
    | (go_at_call 179; refine (HC.out _ a1 c1 (own_base own1 (by simp))).mono ?_; rintro en w2 ⟨rfl, rfl⟩))
  go_ret
  exact ⟨rfl, hb⟩
end Go.Proofs.YthjdbmfobmnnlaaGreat

/-
  What a save needs: the plain law.
-/
namespace Go.Proofs.YthjdbmfobmnnlaaGreat
open Go.RowKit
set_option linter.unusedVariables false
/-! ### What a save needs -/
theorem odd_fair {b bt : Int} {l : List En} (hm : mayL b bt l = true) : l.any oddE = false ↔ ∀ e ∈ l, EnFair e := by
  obtain ⟨_, _, _, _, _, h6, h7⟩ := mayL_true hm
  rw [← Bool.not_eq_true, List.any_eq_true]
  constructor
  · intro h e he
    by_cases hf : EnFair e
    · exact hf
    · exact (h ⟨e, he, by unfold oddE; simp [hf]⟩).elim
  · rintro h ⟨e, he, ho⟩
    obtain ⟨i, hi, rfl⟩ := List.getElem_of_mem he
    have ht := rising_at hi h7
    unfold oddE at ho
    simp only [Bool.not_eq_true', decide_eq_false_iff_not] at ho
    exact ho ⟨h _ he, by omega, by omega⟩
theorem saveE_bad {x : Vt} {t v b bt : Int} {l : List En} (h : ¬ (mayV t v = true ∧ mayL b bt l = true ∧ b = 0 ∧ ∀ e ∈ l, EnFair e)) : saveE x t v b bt l = 1 := if_neg h
theorem saveE_ok {x : Vt} {t v b bt : Int} {l : List En} (h : mayV t v = true ∧ mayL b bt l = true ∧ b = 0 ∧ ∀ e ∈ l, EnFair e) : saveE x t v b bt l = if 65536 < (x.1 ++ saveB x.2.2 t v l).length then 7 else 0 := if_pos h
theorem saveV_no {x : Vt} {t v b bt : Int} {l : List En} (h : saveE x t v b bt l ≠ 0) : saveV x t v b bt l = x := if_neg h
theorem commonN_eq : ∀ {es fs : List En} {k : Nat}, k ≤ es.length → k ≤ fs.length → es.take k = fs.take k → (k < es.length → k < fs.length → es[k]? ≠ fs[k]?) → commonN es fs = k
  | [], fs, k, h1, _, _, _ => by simp at h1; simp [commonN, h1]
  | e :: es, [], k, _, h2, _, _ => by simp at h2; simp [commonN, h2]
  | e :: es, f :: fs, 0, _, _, _, h4 => by
    have := h4 (by simp) (by simp)
    simp only [List.getElem?_cons_zero, ne_eq, Option.some.injEq] at this
    unfold commonN
    rw [if_neg this]
  | e :: es, f :: fs, k + 1, h1, h2, h3, h4 => by
    simp only [List.take_succ_cons, List.cons.injEq] at h3
    simp only [List.length_cons] at h1 h2 h4
    unfold commonN
    rw [if_pos h3.1, commonN_eq (k := k) (by omega) (by omega) h3.2 (fun a b => by have := h4 (by omega) (by omega); simpa using this)]
theorem entRecs_snoc : ∀ (es : List En) (i : Nat) (e : En), entRecs i (es ++ [e]) = entRecs i es ++ recB 2 (numsOf ((i + es.length + 1 : Nat) : Int) e)
  | [], i, e => by simp [entRecs]
  | x :: es, i, e => by
    rw [List.cons_append, entRecs, entRecs_snoc es (i + 1) e, entRecs, List.append_assoc, List.length_cons]
    rw [show i + 1 + es.length + 1 = i + (es.length + 1) + 1 by omega]
theorem entRecs_le : ∀ (es : List En) (i : Nat), (∀ j (h : j < es.length), RecOk 2 (numsOf ((i + j + 1 : Nat) : Int) (es[j]'h))) → (entRecs i es).length ≤ es.length * 83
  | [], i, _ => by simp [entRecs]
  | e :: es, i, h => by
    have h0 := (rec_length (h 0 (by simp))).2
    have h1 := entRecs_le es (i + 1) (fun j hj => by have := h (j + 1) (by simp; omega); simpa [show i + (j + 1) + 1 = i + 1 + j + 1 by omega] using this)
    simp only [Nat.add_zero, List.getElem_cons_zero] at h0
    rw [entRecs, List.length_append, List.length_cons]
    omega
end Go.Proofs.YthjdbmfobmnnlaaGreat

/-
  Whether an entry of some may not be.
-/
namespace Go.Proofs.YthjdbmfobmnnlaaGreat
open Go.RowKit
set_option linter.unusedVariables false
theorem anyE_goes {es : List En} {k : Nat} {p : En → Bool} (hk : k < es.length) (h : (es.take k).any p = false) (h2 : p (es[k]'hk) = false) : (es.take (k + 1)).any p = false := by
  rw [List.take_add_one, List.getElem?_eq_getElem hk, List.any_append, h]
  simpa using h2
theorem anyE_stops {es : List En} {k : Nat} {p : En → Bool} (hk : k < es.length) (h2 : p (es[k]'hk) = true) : es.any p = true := List.any_eq_true.2 ⟨_, List.getElem_mem hk, h2⟩
set_option maxRecDepth 100000 in
set_option maxHeartbeats 3200000 in
theorem indexE_any (a : Option Addr) (cap : Nat) (es : List En) (w : World) (hr : RowAt w a (ensV es)) (hl : es.length ≤ 1000000) (hwf : ∀ e ∈ es, EnWf e) :
    Calls Tryz.prog 178 #[.slice a es.length cap, .func (.func 122) #[] #[]] w fun e w' => (∃ i : Int, e = .returned (.int .i64 i) ∧ -1 ≤ i ∧ decide (0 ≤ i) = es.any oddE) ∧ Below w.heap.size w w' := by
  have HW := Lib.hid hwf
  have HR := Lib.hid hr
  clear hwf hr
  go_enter Tryz.func178, Tryz.ntmps178
  go_wp2
  go_loopw [8] (fun i wr => ∃ (k : Nat), k ≤ es.length ∧ i = .int .i64 k ∧ Hid ((es.take k).any oddE = false) ∧ Below w.heap.size w wr) (fun i _ => es.length - (intOf i).toNat)
  case atStart => exact ⟨0, by omega, rfl, by rw [Hid]; simp, below0 w⟩
  case round =>
    obtain ⟨k, hk, rfl, HP, hbw⟩ := hrel
    by_cases hlt : k < es.length
    · obtain ⟨b, off, rfl, hblt, c0, c1, c2, c3, c4, c5, c6⟩ := entry_cells (HR.out.below hbw) hlt
      have HS : Hid (∀ W, Calls Tryz.prog 122 #[entA (es[k]'hlt)] W fun e w' => e = .returned (.bool (oddE (es[k]'hlt))) ∧ Below W.heap.size W w') := fun W => oddEn_any _ W (HW.out _ (List.getElem_mem hlt))
      have hk0 : (0 : Int) ≤ (k : Int) := by omega
      have hk1 : (k : Int) < (es.length : Int) := by omega
      have hb1 := hbw.size
      unfold entA at HS
      cases hp : oddE (es[k]'hlt) with
      | true =>
        have HQ := Lib.hid (anyE_stops (p := oddE) hlt hp)
        rw [hp] at HS
        clear hp
        generalize (es[k]'hlt) = x at HS c0 c1 c2 c3 c4 c5 c6
        obtain ⟨x0, x1, x2, x3, x4, x5, x6⟩ := x
        simp only at HS c0 c1 c2 c3 c4 c5 c6
        go_wp2_with (go_at_call 122; refine (HS.out _).mono ?_; rintro e w' ⟨rfl, hb2⟩; have hb3 := hbw.trans (hb2.mono hb1))
        go_ret
        exact ⟨⟨_, rfl, by omega, by rw [HQ.out]; simp⟩, hb3⟩
      | false =>
        have HQ := Lib.hid (anyE_goes (p := oddE) hlt HP.out hp)
        rw [hp] at HS
        clear hp HP
        generalize (es[k]'hlt) = x at HS c0 c1 c2 c3 c4 c5 c6
        obtain ⟨x0, x1, x2, x3, x4, x5, x6⟩ := x
        simp only at HS c0 c1 c2 c3 c4 c5 c6
        go_wp2_with (go_at_call 122; refine (HS.out _).mono ?_; rintro e w' ⟨rfl, hb2⟩; have hb3 := hbw.trans (hb2.mono hb1))
        go_roundw
        case rel => exact ⟨k + 1, by omega, by go_num, HQ, hb3⟩
        case measure => simp [intOf]; omega
    · have hk : k = es.length := by omega
      subst hk
      have HP2 : Hid (es.any oddE = false) := by have := HP.out; rwa [List.take_length] at this
      go_wp2
      go_ret
      exact ⟨⟨-1, rfl, by omega, by rw [HP2.out]; rfl⟩, hbw⟩
theorem containsE_any (a : Option Addr) (cap : Nat) (es : List En) (w : World) (hr : RowAt w a (ensV es)) (hl : es.length ≤ 1000000) (hwf : ∀ e ∈ es, EnWf e) :
    Calls Tryz.prog 121 #[.slice a es.length cap, .func (.func 122) #[] #[]] w fun e w' => e = .returned (.bool (es.any oddE)) ∧ Below w.heap.size w w' := by
  have HS := Lib.hid (indexE_any a cap es w hr hl hwf)
  clear hr hwf
  go_enter Tryz.func121, Tryz.ntmps121
  go_wp2_with (go_at_call 178; refine HS.out.mono ?_; rintro e w' ⟨⟨i, rfl, hi1, hi2⟩, hb⟩; replace hi2 := Lib.hid hi2)
  go_ret
  exact ⟨ret_bool hi2.out, hb⟩
end Go.Proofs.YthjdbmfobmnnlaaGreat

/-
  Behind an append the slice that was appended to is as it was.
-/
namespace Go.Proofs.YthjdbmfobmnnlaaGreat
open Go.RowKit
set_option linter.unusedVariables false
section
variable {P : Program} {w : World} {t e : TypeId} {z : Value} {size bytes : Nat}
/-- Behind an append the slice that was appended to is as it was. -/
theorem append_old (E : Elem P t e z size bytes) (ty : TypeId) (base : Nat)
    (v : Value) (n : Nat) (xs : List Value) (hown : w.ownsRow base e size v n xs) (a : Addr) (m c : Nat) (news : List Value) (hl : news.length = m * size) (hnews : ∀ j u, news[j]? = some u → w.cell? (a.add j) = some u) (h1 : ∀ u ∈ news, u.oneCell' = true)
    (h63 : n + m ≤ maxLen) (hbytes : (n + m) * bytes ≤ 140737488355328) (v' : Value) (w' : World) (hrun : (Builtin.append_ #[t, t] ty #[v, .slice (some a) m c]).run P w = .ok v' w') : w'.ownsRow base e size v n xs := by
  obtain ⟨i, hi, hz, hsize, hby⟩ := info_parts E.info
  have hsz := E.pos
  have ht := E.under
  subst hsize
  subst hby
  have hsmall : n + m ≤ 9223372036854775807 := by simp only [maxLen] at h63; omega
  rcases hown.2 with ⟨rfl, rfl⟩ | ⟨g, cap, cur, rfl, hbg, hg, hnc, hcm, hcs, htake⟩
  · have hx : xs = [] := List.eq_nil_of_length_eq_zero (by simpa using hown.1)
    subst hx
    exact World.ownsRow_nil _ _ _ _
  · by_cases hroom : n + m ≤ cap
    · have hfit : n * i.size + news.length ≤ cur.size := by rw [hl, hcs, ← Nat.add_mul]; exact Nat.mul_le_mul_right _ hroom
      have hr := run_append_room (P := P) w t ty e i ht hi g n cap cur hg a m c news hl hnews h1 hroom hfit
      rw [hr] at hrun
      injection hrun with _ hw
      subst hw
      refine ⟨hown.1, .inr ⟨g, cap, _, rfl, hbg, setRow_heap w g cur _ e _ hg, hnc, hcm, ?_, ?_⟩⟩
      · simp only [List.size_toArray, List.length_append, List.length_take, List.length_drop, Array.length_toList]
        omega
      · rw [htake]
        simp only [List.append_assoc]
        rw [← hown.1, List.take_left]
    · have holds : ∀ j u, xs[j]? = some u → w.cell? ((⟨g, 0, none⟩ : Addr).add j) = some u := hown.cells (g := g) rfl
      have hr := run_append_grow (P := P) w t ty e i z ht hi hz ⟨g, 0, none⟩ n cap xs hown.1 holds a m c news hl hnews (by omega) (by omega) (growslice_fits (by omega) hbytes)
      rw [hr] at hrun
      injection hrun with _ hw
      subst hw
      have hgl : g < w.heap.size := blk_lt hg
      refine ⟨hown.1, .inr ⟨g, cap, cur, rfl, hbg, ?_, hnc, hcm, hcs, htake⟩⟩
      rw [Below.heap_alloc w.drew _ g hgl]
      exact hg
theorem step_append_row2 {ops : Array Oper} {o : Oper} {a : Act} {K : Act → World → Prop} {Q : Exit → Act → World → Prop} {E0 : Prop} (hgd : o.guard = none) (s x : Operand)
    (ho : o.op = .call { callee := .builtin .append, args := #[s, x], argTypes := #[t, t] }) (E : Elem P t e z size bytes) (base : Nat)
    (v : Value) (n : Nat) (xs : List Value) (hs : a.eval s = v) (hown : w.ownsRow base e size v n xs) (A : Addr) (m c : Nat) (news : List Value) (hx : a.eval x = .slice (some A) m c) (hl : news.length = m * size) (hr : RowAt w (some A) news) (h1 : ∀ u ∈ news, u.oneCell' = true) (hm : 0 < m)
    (h63 : n + m ≤ maxLen) (hbytes : (n + m) * bytes ≤ 140737488355328) (hbase : base ≤ w.heap.size)
    (h : ∀ a' c' w', w'.ownsRow base e size (.slice a' (n + m) c') (n + m) (xs ++ news) → w.grownBy w' v.ownBlock → w'.ownsRow base e size v n xs → K (a.put o.dst (.slice a' (n + m) c')) w') :
    if Region.wanted o (yielded ops a.tmps) = true then Oper.wp P o a w K Q else E0 := by
  have hw : Region.wanted o (yielded ops a.tmps) = true := by simp [Region.wanted, hgd]
  rw [if_pos hw]
  obtain ⟨a', c', w', hrun, h2, h3, h4⟩ := run_append_row w E o.type base v n xs hown (some A) m c news hl hr h1 h63 hbytes hbase (fun h => by cases h)
  have hcells : ∀ j u, news[j]? = some u → w.cell? (A.add j) = some u := by
    rcases hr with rfl | ⟨b, off, ha, hlt, hc⟩
    · intro j u hj; simp at hj
    · cases ha
      exact RowAt.cells (.inr ⟨b, off, rfl, hlt, hc⟩)
  have hold := append_old E o.type base v n xs hown A m c news hl hcells h1 h63 hbytes _ _ hrun
  unfold Oper.wp execOp
  simp only [ho, resolve, invoke, builtin, Sem.run_bind, Sem.run_pure, Result.andThen_ok, List.map_toArray, List.map_cons, List.map_nil, hs, hx, hrun]
  exact h a' c' w' h2 h3 hold
end
end Go.Proofs.YthjdbmfobmnnlaaGreat

/-
  Slice expressions over slices of bytes, whatever address they have.
-/
namespace Go.Proofs.YthjdbmfobmnnlaaGreat
open Go.RowKit

theorem sizeOf_byte (w : World) : (sizeOf 5).run Tryz.prog w = .ok 1 w := by
  obtain ⟨i, hi, _, hs, _⟩ := info_parts elemB.info
  simp [sizeOf, typeInfo, hi, hs]
theorem elem_bytes : Tryz.prog.elem 48 = 5 := by kernel_rfl
theorem under_bytes : Tryz.prog.underlying 48 = some (.slice (Tryz.prog.elem 48)) := by rw [elem_bytes]; exact Tryz.underlying48
theorem map_add_zero (a : Option Addr) : a.map (·.add (0 * 1)) = a := by
  rcases a with _ | ⟨b, off, s⟩
  · rfl
  · simp [Addr.add]
/-- 'b[:h]' of bytes. -/
theorem slice_to (a : Option Addr) (len cap h : Nat) (hh : h ≤ cap) (w : World) :
    (Instr.slice 48 (.slice a len cap) none (some (.int .i64 (h : Int))) none).run Tryz.prog w = .ok (.slice a h cap) w := by
  rw [run_slice_h (P := Tryz.prog) w 48 a len cap under_bytes .i64 (h : Int) (by omega) (by omega), elem_bytes, sizeOf_byte]
  simp only [Result.andThen, sliced, map_add_zero, Int.toNat_natCast, Nat.sub_zero, ite_self]
/-- The address of 'b[l:]'. -/
def cutA (a : Option Addr) (cap l : Nat) : Option Addr := if cap = l then a else a.map (·.add (l * 1))
theorem slice_from (a : Option Addr) (len cap l : Nat) (hl : l ≤ len) (w : World) :
    (Instr.slice 48 (.slice a len cap) (some (.int .i64 (l : Int))) none none).run Tryz.prog w = .ok (.slice (cutA a cap l) (len - l) (cap - l)) w := by
  rw [run_slice_l (P := Tryz.prog) w 48 a len cap under_bytes .i64 (l : Int) (by omega) (by omega), elem_bytes, sizeOf_byte]
  simp only [Result.andThen, sliced, Int.toNat_natCast, cutA]
/-- 'b[l:h]' of bytes. -/
theorem slice_mid (a : Option Addr) (len cap l h : Nat) (hl : l ≤ h) (hh : h ≤ cap) (w : World) :
    (Instr.slice 48 (.slice a len cap) (some (.int .i64 (l : Int))) (some (.int .i64 (h : Int))) none).run Tryz.prog w = .ok (.slice (cutA a cap l) (h - l) (cap - l)) w := by
  rw [run_slice_lh (P := Tryz.prog) w 48 a len cap under_bytes .i64 .i64 (l : Int) (h : Int) (by omega) (by omega) (by omega), elem_bytes, sizeOf_byte]
  simp only [Result.andThen, sliced, Int.toNat_natCast, cutA]
theorem RowAt.cut {w : World} {a : Option Addr} {xs : List Value} (h : RowAt w a xs) (cap l : Nat) (hc : xs.length ≤ cap) : RowAt w (cutA a cap l) (xs.drop l) := by
  unfold cutA
  by_cases e : cap = l
  · rw [if_pos e, List.drop_of_length_le (by omega)]; exact .nil
  · rw [if_neg e]
    rcases h with rfl | ⟨b, off, rfl, hlt, hx⟩
    · rw [List.drop_nil]; exact .nil
    · have hadd : (⟨b, off, none⟩ : Addr).add (l * 1) = ⟨b, off + l, none⟩ := by unfold Addr.add; split <;> simp_all
      rw [Option.map_some, hadd]
      exact RowAt.drop (.inr ⟨b, off, rfl, hlt, hx⟩) l
theorem cutA_none {a : Option Addr} {cap l n : Nat} (h : a = none → n = 0) : cutA a cap l = none → n - l = 0 := by
  unfold cutA
  intro e
  have : a = none := by
    by_cases hc : cap = l
    · rwa [if_pos hc] at e
    · rw [if_neg hc] at e; cases a with
      | none => rfl
      | some x => cases e
  rw [h this, Nat.zero_sub]
theorem CellsB.take {w : World} {a : Option Addr} {bs : List UInt8} (h : CellsB w a bs) (k : Nat) : CellsB w a (bs.take k) := by
  unfold CellsB at h ⊢; rw [List.map_take]; exact RowAt.take h k
theorem CellsB.cut {w : World} {a : Option Addr} {bs : List UInt8} (h : CellsB w a bs) (cap l : Nat) (hc : bs.length ≤ cap) : CellsB w (cutA a cap l) (bs.drop l) := by
  unfold CellsB at h ⊢; rw [List.map_drop]; exact RowAt.cut h cap l (by simpa using hc)
end Go.Proofs.YthjdbmfobmnnlaaGreat
