/-
  The plain mathematics of frames: what is put, what is got, what is run.
-/
import Derived.Test.YtbonockefjenaaaCrcMathC
namespace Go.Proofs.Ytbonockefjenaaa
open Go.RowKit

/-! ### Frames -/
/-- A frame: its kind, its body. -/
abbrev Fr := Int × List UInt8
def b8 (n : Nat) : UInt8 := UInt8.ofNat n
def headOf (k n : Nat) : List UInt8 := [83, b8 k, b8 (n / 256), b8 (n % 256)]
/-- The error of a frame that is put: 0, 1 (ErrArg), 7 (ErrFull). -/
def putE (f : Fr) : Int := if f.1 < 0 ∨ 255 < f.1 then 1 else if 4096 < f.2.length then 7 else 0
def putB (f : Fr) : List UInt8 := if putE f = 0 then sealed (headOf f.1.toNat f.2.length ++ f.2) else []
/-- How many bytes the frame has that bytes begin with, and the error. -/
def lenOf (bs : List UInt8) : Nat := (bs.getD 2 0).toNat * 256 + (bs.getD 3 0).toNat
def sizeE (bs : List UInt8) : Int :=
  if bs.length = 0 then 3 else if (bs.getD 0 0).toNat ≠ 83 then 2 else if bs.length < 4 then 3 else if 4096 < lenOf bs then 7 else if bs.length < lenOf bs + 8 then 3 else 0
def sizeN (bs : List UInt8) : Nat := if sizeE bs = 0 then lenOf bs + 8 else 0
def getE (bs : List UInt8) : Int := if sizeE bs = 0 then (if opens (bs.take (sizeN bs)) then 0 else 4) else sizeE bs
def getN (bs : List UInt8) : Nat := if getE bs = 0 then sizeN bs else 0
def getF (bs : List UInt8) : Fr := if getE bs = 0 then (((bs.getD 1 0).toNat : Int), ((bs.take (sizeN bs)).take (sizeN bs - 4)).drop 4) else (0, [])
/-- The frames that bytes begin with: with so much fuel. -/
def runs : Nat → List UInt8 → List Fr × Nat × Int
  | 0, _ => ([], 0, 0)
  | k + 1, bs => if bs.length = 0 then ([], 0, 0) else if getE bs = 0 then let r := runs k (bs.drop (getN bs)); (getF bs :: r.1, getN bs + r.2.1, r.2.2) else ([], 0, getE bs)
def run (bs : List UInt8) : List Fr × Nat × Int := runs bs.length bs
theorem sizeN_pos {bs : List UInt8} (h : sizeE bs = 0) : 8 ≤ sizeN bs ∧ sizeN bs ≤ bs.length ∧ sizeN bs ≤ 4104 ∧ sizeN bs = lenOf bs + 8 ∧ (bs.getD 0 0).toNat = 83 := by
  have h1 : sizeN bs = lenOf bs + 8 := by unfold sizeN; rw [if_pos h]
  unfold sizeE at h
  split at h
  · omega
  · split at h
    · omega
    · split at h
      · omega
      · split at h
        · omega
        · split at h
          · omega
          · rename_i h2 _ _ _
            have h3 := Classical.not_not.1 h2
            omega
theorem getE_ok {bs : List UInt8} (h : getE bs = 0) : sizeE bs = 0 ∧ opens (bs.take (sizeN bs)) = true := by
  unfold getE at h
  split at h
  · rename_i h1
    split at h
    · rename_i h2; exact ⟨h1, h2⟩
    · omega
  · rename_i h1; exact absurd h h1
theorem getN_pos {bs : List UInt8} (h : getE bs = 0) : 8 ≤ getN bs ∧ getN bs ≤ bs.length := by
  have h1 := (getE_ok h).1
  have := sizeN_pos h1
  unfold getN
  rw [if_pos h]
  omega
theorem runs_fuel : ∀ (k m : Nat) (bs : List UInt8), bs.length ≤ k → bs.length ≤ m → runs k bs = runs m bs := by
  intro k
  induction k with
  | zero =>
    intro m bs hk _
    have h0 : bs.length = 0 := by omega
    cases m with
    | zero => rfl
    | succ m => simp [runs, h0]
  | succ k ih =>
    intro m bs hk hm
    cases m with
    | zero =>
      have h0 : bs.length = 0 := by omega
      simp [runs, h0]
    | succ m =>
      by_cases h0 : bs.length = 0
      · simp [runs, h0]
      · by_cases he : getE bs = 0
        · have hp := getN_pos he
          simp only [runs, if_neg h0, if_pos he]
          rw [ih m (bs.drop (getN bs)) (by rw [List.length_drop]; omega) (by rw [List.length_drop]; omega)]
        · simp only [runs, if_neg h0, if_neg he]
theorem run_nil {bs : List UInt8} (h : bs.length = 0) : run bs = ([], 0, 0) := by
  unfold run; rw [h]; rfl
theorem run_ok {bs : List UInt8} (h : getE bs = 0) : run bs = (getF bs :: (run (bs.drop (getN bs))).1, getN bs + (run (bs.drop (getN bs))).2.1, (run (bs.drop (getN bs))).2.2) := by
  have hp := getN_pos h
  obtain ⟨k, hk⟩ : ∃ k, bs.length = k + 1 := ⟨bs.length - 1, by omega⟩
  unfold run
  rw [hk]
  simp only [runs, if_neg (show ¬ bs.length = 0 by omega), if_pos h]
  rw [runs_fuel k (bs.drop (getN bs)).length _ (by rw [List.length_drop]; omega) (Nat.le_refl _)]
theorem run_err {bs : List UInt8} (h0 : bs.length ≠ 0) (h : getE bs ≠ 0) : run bs = ([], 0, getE bs) := by
  obtain ⟨k, hk⟩ : ∃ k, bs.length = k + 1 := ⟨bs.length - 1, by omega⟩
  unfold run
  rw [hk]
  simp only [runs, if_neg h0, if_neg h]
/-! ### What was put is got -/
theorem b8_toNat (n : Nat) (h : n < 256) : (b8 n).toNat = n := UInt8.toNat_ofNat_of_lt' h
theorem headOf_length (k n : Nat) : (headOf k n).length = 4 := rfl
theorem putE_zero {f : Fr} (h : putE f = 0) : 0 ≤ f.1 ∧ f.1 ≤ 255 ∧ f.2.length ≤ 4096 := by
  unfold putE at h
  split at h
  · omega
  · split at h
    · omega
    · omega
theorem putB_eq {f : Fr} (h : putE f = 0) : putB f = sealed (headOf f.1.toNat f.2.length ++ f.2) := by unfold putB; rw [if_pos h]
theorem putB_length {f : Fr} (h : putE f = 0) : (putB f).length = f.2.length + 8 := by
  rw [putB_eq h, sealed_length, List.length_append, headOf_length]; omega
theorem putB_none {f : Fr} (h : putE f ≠ 0) : putB f = [] := by unfold putB; rw [if_neg h]
theorem getD_append_lt (a b : List UInt8) (i : Nat) (h : i < a.length) : (a ++ b).getD i 0 = a.getD i 0 := by
  rw [List.getD_eq_getElem?_getD, List.getD_eq_getElem?_getD, List.getElem?_append_left h]
theorem putB_head {f : Fr} (h : putE f = 0) (more : List UInt8) (i : Nat) (hi : i < 4) : (putB f ++ more).getD i 0 = (headOf f.1.toNat f.2.length).getD i 0 := by
  have h1 := putB_length h
  rw [getD_append_lt _ _ _ (by omega), putB_eq h]
  unfold sealed
  rw [List.append_assoc, getD_append_lt _ _ _ (by rw [headOf_length]; exact hi)]
theorem putB_lenOf {f : Fr} (h : putE f = 0) (more : List UInt8) : lenOf (putB f ++ more) = f.2.length := by
  have hp := putE_zero h
  unfold lenOf
  rw [putB_head h more 2 (by omega), putB_head h more 3 (by omega)]
  show (b8 (f.2.length / 256)).toNat * 256 + (b8 (f.2.length % 256)).toNat = f.2.length
  rw [b8_toNat _ (by omega), b8_toNat _ (by omega)]
  omega
theorem putB_first {f : Fr} (h : putE f = 0) (more : List UInt8) : ((putB f ++ more).getD 0 0).toNat = 83 := by
  rw [putB_head h more 0 (by omega)]; rfl
theorem putB_size {f : Fr} (h : putE f = 0) (more : List UInt8) : sizeE (putB f ++ more) = 0 ∧ sizeN (putB f ++ more) = (putB f).length := by
  have h1 := putB_length h
  have h2 := putB_lenOf h more
  have h3 := putB_first h more
  have h4 : (putB f ++ more).length = (putB f).length + more.length := List.length_append
  have hp := putE_zero h
  have he : sizeE (putB f ++ more) = 0 := by
    unfold sizeE
    rw [if_neg (by omega), if_neg (by omega), if_neg (by omega), if_neg (by omega), if_neg (by omega)]
  exact ⟨he, by unfold sizeN; rw [if_pos he, h2, h1]⟩
theorem putB_get {f : Fr} (h : putE f = 0) (more : List UInt8) : getE (putB f ++ more) = 0 ∧ getN (putB f ++ more) = (putB f).length ∧ getF (putB f ++ more) = f := by
  obtain ⟨h1, h2⟩ := putB_size h more
  have h3 : (putB f ++ more).take (sizeN (putB f ++ more)) = putB f := by rw [h2, List.take_left]
  have ho : opens (putB f) = true ∧ opened (putB f) = headOf f.1.toNat f.2.length ++ f.2 := by rw [putB_eq h]; exact opens_sealed _
  have he : getE (putB f ++ more) = 0 := by
    unfold getE
    rw [if_pos h1, h3, if_pos ho.1]
  refine ⟨he, by unfold getN; rw [if_pos he, h2], ?_⟩
  unfold getF
  rw [if_pos he, h3, putB_head h more 1 (by omega), h2]
  have h4 : (putB f).take ((putB f).length - 4) = headOf f.1.toNat f.2.length ++ f.2 := by
    have := ho.2
    unfold opened at this
    rwa [if_pos ho.1] at this
  rw [h4]
  have h5 : (headOf f.1.toNat f.2.length ++ f.2).drop 4 = f.2 := List.drop_left' rfl
  have hp := putE_zero h
  have h6 : (((headOf f.1.toNat f.2.length).getD 1 0).toNat : Int) = f.1 := by
    show ((b8 f.1.toNat).toNat : Int) = f.1
    rw [b8_toNat _ (by omega)]; omega
  rw [h5, h6]
/-- What is got is put as just these bytes. -/
theorem get_put {bs : List UInt8} (h : getE bs = 0) : putE (getF bs) = 0 ∧ putB (getF bs) = bs.take (getN bs) := by
  obtain ⟨h1, h2⟩ := getE_ok h
  have hs := sizeN_pos h1
  have hb : (getF bs).2.length = lenOf bs := by
    unfold getF
    rw [if_pos h]
    show (((bs.take (sizeN bs)).take (sizeN bs - 4)).drop 4).length = _
    rw [List.length_drop, List.length_take, List.length_take]; omega
  have hk : (getF bs).1 = ((bs.getD 1 0).toNat : Int) := by unfold getF; rw [if_pos h]
  have hk2 := (bs.getD 1 0).toNat_lt
  have he : putE (getF bs) = 0 := by
    unfold putE
    rw [hk, if_neg (by omega), if_neg (by omega)]
  refine ⟨he, ?_⟩
  rw [putB_eq he]
  have hn : getN bs = sizeN bs := by unfold getN; rw [if_pos h]
  rw [hn]
  have ho := h2
  unfold opens at ho
  simp only [Bool.and_eq_true, decide_eq_true_eq] at ho
  have hl : (bs.take (sizeN bs)).length = sizeN bs := by rw [List.length_take]; omega
  rw [hl] at ho
  have h3 := ho.2
  rw [← h3]
  congr 1
  rw [hk, hb]
  have hbody : (getF bs).2 = ((bs.take (sizeN bs)).take (sizeN bs - 4)).drop 4 := by unfold getF; rw [if_pos h]
  rw [hbody]
  have h4 : headOf ((bs.getD 1 0).toNat : Int).toNat (lenOf bs) = ((bs.take (sizeN bs)).take (sizeN bs - 4)).take 4 := by
    rw [List.take_take, List.take_take, show min (min 4 (sizeN bs - 4)) (sizeN bs) = 4 by omega]
    have e : ∀ i, i < bs.length → bs[i]? = some (bs.getD i 0) := fun i hi => by
      rw [List.getD_eq_getElem?_getD, List.getElem?_eq_getElem hi]; rfl
    have hq : bs.take 4 = [bs.getD 0 0, bs.getD 1 0, bs.getD 2 0, bs.getD 3 0] := by
      apply List.ext_getElem?
      intro i
      rw [List.getElem?_take]
      by_cases hi : i < 4
      · rw [if_pos hi, e i (by omega)]
        have : i = 0 ∨ i = 1 ∨ i = 2 ∨ i = 3 := by omega
        rcases this with rfl | rfl | rfl | rfl <;> rfl
      · rw [if_neg hi, List.getElem?_eq_none]
        show 4 ≤ i
        omega
    rw [hq]
    have g0 : bs.getD 0 0 = 83 := UInt8.toNat_inj.1 hs.2.2.2.2
    have g1 : b8 (bs.getD 1 0).toNat = bs.getD 1 0 := UInt8.toNat_inj.1 (b8_toNat _ hk2)
    have hl2 := (bs.getD 2 0).toNat_lt
    have hl3 := (bs.getD 3 0).toNat_lt
    have g2 : b8 (lenOf bs / 256) = bs.getD 2 0 := UInt8.toNat_inj.1 (by
      have : lenOf bs / 256 = (bs.getD 2 0).toNat := by unfold lenOf; omega
      rw [this]; exact b8_toNat _ hl2)
    have g3 : b8 (lenOf bs % 256) = bs.getD 3 0 := UInt8.toNat_inj.1 (by
      have : lenOf bs % 256 = (bs.getD 3 0).toNat := by unfold lenOf; omega
      rw [this]; exact b8_toNat _ hl3)
    unfold headOf
    rw [Int.toNat_natCast, g0, g1, g2, g3]
  rw [h4, List.take_append_drop]
/-! ### Frames one behind the other -/
def puts (l : List Fr) : List UInt8 := l.flatMap putB
theorem puts_cons (f : Fr) (l : List Fr) : puts (f :: l) = putB f ++ puts l := rfl
theorem run_puts (l : List Fr) (h : ∀ f ∈ l, putE f = 0) (more : List UInt8) : run (puts l ++ more) = (l ++ (run more).1, (puts l).length + (run more).2.1, (run more).2.2) := by
  induction l with
  | nil => simp [puts]
  | cons f l ih =>
    have hf := h f (by simp)
    obtain ⟨g1, g2, g3⟩ := putB_get hf (puts l ++ more)
    rw [puts_cons, List.append_assoc, run_ok g1, g2, g3, List.drop_left, ih (fun g hg => h g (by simp [hg]))]
    simp [Nat.add_assoc]
/-- A part of a frame lacks some. -/
theorem cut_more {f : Fr} (h : putE f = 0) (k : Nat) (h0 : 0 < k) (hk : k < (putB f).length) : getE ((putB f).take k) = 3 := by
  have h1 := putB_length h
  have hl : ((putB f).take k).length = k := by rw [List.length_take]; omega
  have hg : ∀ i, i < k → ((putB f).take k).getD i 0 = (putB f ++ []).getD i 0 := fun i hi => by
    rw [List.append_nil, List.getD_eq_getElem?_getD, List.getD_eq_getElem?_getD, List.getElem?_take, if_pos hi]
  have hp := putE_zero h
  have hs : sizeE ((putB f).take k) = 3 := by
    unfold sizeE
    rw [hl, if_neg (by omega), hg 0 h0, putB_first h [], if_neg (by omega)]
    by_cases h4 : k < 4
    · rw [if_pos h4]
    · rw [if_neg h4]
      have hn : lenOf ((putB f).take k) = f.2.length := by
        have := putB_lenOf h []
        unfold lenOf at this ⊢
        rw [hg 2 (by omega), hg 3 (by omega)]; exact this
      rw [hn, if_neg (by omega), if_pos (by omega)]
  unfold getE
  rw [if_neg (by omega), hs]
theorem bad_form {bs : List UInt8} (h0 : bs.length ≠ 0) (h : (bs.getD 0 0).toNat ≠ 83) : getE bs = 2 := by
  have hs : sizeE bs = 2 := by unfold sizeE; rw [if_neg h0, if_pos h]
  unfold getE
  rw [if_neg (by omega), hs]
end Go.Proofs.Ytbonockefjenaaa
