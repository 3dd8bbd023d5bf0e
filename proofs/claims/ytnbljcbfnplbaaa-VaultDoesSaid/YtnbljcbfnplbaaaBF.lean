/-
  BF: several texts in one.
-/
import Derived.Test.YtnbljcbfnplbaaaBA
import Derived.Test.YtnbljcbfnplbaaaBC
/-
  The plain mathematics of frames: what is put, what is got, what is run.
-/
namespace Go.Proofs.Ytnbljcbfnplbaaa
open Go.RowKit

/-! ### Frames -/
/-- A frame: its kind, its body. -/
abbrev Fr := Int × List UInt8
def headOf (k n : Nat) : List UInt8 := [83, b8 k, b8 (n / 256), b8 (n % 256)]
/-- The error of a frame that is put: 0, 1 (ErrArg), 7 (ErrFull). -/
def putE (f : Fr) : Int := if f.1 < 0 ∨ 255 < f.1 then 1 else if 4096 < f.2.length then 7 else 0
def putB (f : Fr) : List UInt8 := if putE f = 0 then sealed (headOf f.1.toNat f.2.length ++ f.2) else []
/-- How many bytes the frame has that bytes begin with, and the error. -/
def lenOf (bs : List UInt8) : Nat := (bs.getD 2 0).toNat * 256 + (bs.getD 3 0).toNat
def sizeE (bs : List UInt8) : Int :=
  if bs.length = 0 then 3 else if (bs.getD 0 0).toNat ≠ 83 then 2 else if bs.length < 4 then 3 else if 4096 < lenOf bs then 7 else if bs.length < lenOf bs + 8 then 3 else 0
def sizeN (bs : List UInt8) : Nat := if sizeE bs = 0 then lenOf bs + 8 else 0
def getE (bs : List UInt8) : Int := if sizeE bs = 0 then (if opens (bs.take (sizeN bs)) then 0 else 4) else sizeE bs
def getN (bs : List UInt8) : Nat := if getE bs = 0 then sizeN bs else 0
def getF (bs : List UInt8) : Fr := if getE bs = 0 then (((bs.getD 1 0).toNat : Int), ((bs.take (sizeN bs)).take (sizeN bs - 4)).drop 4) else (0, [])
/-- The frames that bytes begin with: with so much fuel. -/
def runs : Nat → List UInt8 → List Fr × Nat × Int
  | 0, _ => ([], 0, 0)
  | k + 1, bs => if bs.length = 0 then ([], 0, 0) else if getE bs = 0 then let r := runs k (bs.drop (getN bs)); (getF bs :: r.1, getN bs + r.2.1, r.2.2) else ([], 0, getE bs)
def run (bs : List UInt8) : List Fr × Nat × Int := runs bs.length bs
theorem sizeN_pos {bs : List UInt8} (h : sizeE bs = 0) : 8 ≤ sizeN bs ∧ sizeN bs ≤ bs.length ∧ sizeN bs ≤ 4104 ∧ sizeN bs = lenOf bs + 8 ∧ (bs.getD 0 0).toNat = 83 := by
  have h1 : sizeN bs = lenOf bs + 8 := by unfold sizeN; rw [if_pos h]
  unfold sizeE at h
  split at h
  · omega
  · split at h
    · omega
    · split at h
      · omega
      · split at h
        · omega
        · split at h
          · omega
          · rename_i h2 _ _ _
            have h3 := Classical.not_not.1 h2
            omega
theorem getE_ok {bs : List UInt8} (h : getE bs = 0) : sizeE bs = 0 ∧ opens (bs.take (sizeN bs)) = true := by
  unfold getE at h
  split at h
  · rename_i h1
    split at h
    · rename_i h2; exact ⟨h1, h2⟩
    · omega
  · rename_i h1; exact absurd h h1
theorem getN_pos {bs : List UInt8} (h : getE bs = 0) : 8 ≤ getN bs ∧ getN bs ≤ bs.length := by
  have h1 := (getE_ok h).1
  have := sizeN_pos h1
  unfold getN
  rw [if_pos h]
  omega
theorem runs_fuel : ∀ (k m : Nat) (bs : List UInt8), bs.length ≤ k → bs.length ≤ m → runs k bs = runs m bs := by
  intro k
  induction k with
  | zero =>
    intro m bs hk _
    have h0 : bs.length = 0 := by omega
    cases m with
    | zero => rfl
    | succ m => simp [runs, h0]
  | succ k ih =>
    intro m bs hk hm
    cases m with
    | zero =>
      have h0 : bs.length = 0 := by omega
      simp [runs, h0]
    | succ m =>
      by_cases h0 : bs.length = 0
      · simp [runs, h0]
      · by_cases he : getE bs = 0
        · have hp := getN_pos he
          simp only [runs, if_neg h0, if_pos he]
          rw [ih m (bs.drop (getN bs)) (by rw [List.length_drop]; omega) (by rw [List.length_drop]; omega)]
        · simp only [runs, if_neg h0, if_neg he]
theorem run_nil {bs : List UInt8} (h : bs.length = 0) : run bs = ([], 0, 0) := by
  unfold run; rw [h]; rfl
theorem run_ok {bs : List UInt8} (h : getE bs = 0) : run bs = (getF bs :: (run (bs.drop (getN bs))).1, getN bs + (run (bs.drop (getN bs))).2.1, (run (bs.drop (getN bs))).2.2) := by
  have hp := getN_pos h
  obtain ⟨k, hk⟩ : ∃ k, bs.length = k + 1 := ⟨bs.length - 1, by omega⟩
  unfold run
  rw [hk]
  simp only [runs, if_neg (show ¬ bs.length = 0 by omega), if_pos h]
  rw [runs_fuel k (bs.drop (getN bs)).length _ (by rw [List.length_drop]; omega) (Nat.le_refl _)]
theorem run_err {bs : List UInt8} (h0 : bs.length ≠ 0) (h : getE bs ≠ 0) : run bs = ([], 0, getE bs) := by
  obtain ⟨k, hk⟩ : ∃ k, bs.length = k + 1 := ⟨bs.length - 1, by omega⟩
  unfold run
  rw [hk]
  simp only [runs, if_neg h0, if_neg h]
/-! ### What was put is got -/
theorem headOf_length (k n : Nat) : (headOf k n).length = 4 := rfl
theorem putE_zero {f : Fr} (h : putE f = 0) : 0 ≤ f.1 ∧ f.1 ≤ 255 ∧ f.2.length ≤ 4096 := by
  unfold putE at h
  split at h
  · omega
  · split at h
    · omega
    · omega
theorem putB_eq {f : Fr} (h : putE f = 0) : putB f = sealed (headOf f.1.toNat f.2.length ++ f.2) := by unfold putB; rw [if_pos h]
theorem putB_length {f : Fr} (h : putE f = 0) : (putB f).length = f.2.length + 8 := by
  rw [putB_eq h, sealed_length, List.length_append, headOf_length]; omega
theorem putB_none {f : Fr} (h : putE f ≠ 0) : putB f = [] := by unfold putB; rw [if_neg h]
theorem getD_append_lt (a b : List UInt8) (i : Nat) (h : i < a.length) : (a ++ b).getD i 0 = a.getD i 0 := by
  rw [List.getD_eq_getElem?_getD, List.getD_eq_getElem?_getD, List.getElem?_append_left h]
theorem putB_head {f : Fr} (h : putE f = 0) (more : List UInt8) (i : Nat) (hi : i < 4) : (putB f ++ more).getD i 0 = (headOf f.1.toNat f.2.length).getD i 0 := by
  have h1 := putB_length h
  rw [getD_append_lt _ _ _ (by omega), putB_eq h]
  unfold sealed
  rw [List.append_assoc, getD_append_lt _ _ _ (by rw [headOf_length]; exact hi)]
theorem putB_lenOf {f : Fr} (h : putE f = 0) (more : List UInt8) : lenOf (putB f ++ more) = f.2.length := by
  have hp := putE_zero h
  unfold lenOf
  rw [putB_head h more 2 (by omega), putB_head h more 3 (by omega)]
  show (b8 (f.2.length / 256)).toNat * 256 + (b8 (f.2.length % 256)).toNat = f.2.length
  rw [b8_toNat _ (by omega), b8_toNat _ (by omega)]
  omega
theorem putB_first {f : Fr} (h : putE f = 0) (more : List UInt8) : ((putB f ++ more).getD 0 0).toNat = 83 := by
  rw [putB_head h more 0 (by omega)]; rfl
theorem putB_size {f : Fr} (h : putE f = 0) (more : List UInt8) : sizeE (putB f ++ more) = 0 ∧ sizeN (putB f ++ more) = (putB f).length := by
  have h1 := putB_length h
  have h2 := putB_lenOf h more
  have h3 := putB_first h more
  have h4 : (putB f ++ more).length = (putB f).length + more.length := List.length_append
  have hp := putE_zero h
  have he : sizeE (putB f ++ more) = 0 := by
    unfold sizeE
    rw [if_neg (by omega), if_neg (by omega), if_neg (by omega), if_neg (by omega), if_neg (by omega)]
  exact ⟨he, by unfold sizeN; rw [if_pos he, h2, h1]⟩
theorem putB_get {f : Fr} (h : putE f = 0) (more : List UInt8) : getE (putB f ++ more) = 0 ∧ getN (putB f ++ more) = (putB f).length ∧ getF (putB f ++ more) = f := by
  obtain ⟨h1, h2⟩ := putB_size h more
  have h3 : (putB f ++ more).take (sizeN (putB f ++ more)) = putB f := by rw [h2, List.take_left]
  have ho : opens (putB f) = true ∧ opened (putB f) = headOf f.1.toNat f.2.length ++ f.2 := by rw [putB_eq h]; exact opens_sealed _
  have he : getE (putB f ++ more) = 0 := by
    unfold getE
    rw [if_pos h1, h3, if_pos ho.1]
  refine ⟨he, by unfold getN; rw [if_pos he, h2], ?_⟩
  unfold getF
  rw [if_pos he, h3, putB_head h more 1 (by omega), h2]
  have h4 : (putB f).take ((putB f).length - 4) = headOf f.1.toNat f.2.length ++ f.2 := by
    have := ho.2
    unfold opened at this
    rwa [if_pos ho.1] at this
  rw [h4]
  have h5 : (headOf f.1.toNat f.2.length ++ f.2).drop 4 = f.2 := List.drop_left' rfl
  have hp := putE_zero h
  have h6 : (((headOf f.1.toNat f.2.length).getD 1 0).toNat : Int) = f.1 := by
    show ((b8 f.1.toNat).toNat : Int) = f.1
    rw [b8_toNat _ (by omega)]; omega
  rw [h5, h6]
/-- What is got is put as just these bytes. -/
theorem get_put {bs : List UInt8} (h : getE bs = 0) : putE (getF bs) = 0 ∧ putB (getF bs) = bs.take (getN bs) := by
  obtain ⟨h1, h2⟩ := getE_ok h
  have hs := sizeN_pos h1
  have hb : (getF bs).2.length = lenOf bs := by
    unfold getF
    rw [if_pos h]
    show (((bs.take (sizeN bs)).take (sizeN bs - 4)).drop 4).length = _
    rw [List.length_drop, List.length_take, List.length_take]; omega
  have hk : (getF bs).1 = ((bs.getD 1 0).toNat : Int) := by unfold getF; rw [if_pos h]
  have hk2 := (bs.getD 1 0).toNat_lt
  have he : putE (getF bs) = 0 := by
    unfold putE
    rw [hk, if_neg (by omega), if_neg (by omega)]
  refine ⟨he, ?_⟩
  rw [putB_eq he]
  have hn : getN bs = sizeN bs := by unfold getN; rw [if_pos h]
  rw [hn]
  have ho := h2
  unfold opens at ho
  simp only [Bool.and_eq_true, decide_eq_true_eq] at ho
  have hl : (bs.take (sizeN bs)).length = sizeN bs := by rw [List.length_take]; omega
  rw [hl] at ho
  have h3 := ho.2
  rw [← h3]
  congr 1
  rw [hk, hb]
  have hbody : (getF bs).2 = ((bs.take (sizeN bs)).take (sizeN bs - 4)).drop 4 := by unfold getF; rw [if_pos h]
  rw [hbody]
  have h4 : headOf ((bs.getD 1 0).toNat : Int).toNat (lenOf bs) = ((bs.take (sizeN bs)).take (sizeN bs - 4)).take 4 := by
    rw [List.take_take, List.take_take, show min (min 4 (sizeN bs - 4)) (sizeN bs) = 4 by omega]
    have e : ∀ i, i < bs.length → bs[i]? = some (bs.getD i 0) := fun i hi => by
      rw [List.getD_eq_getElem?_getD, List.getElem?_eq_getElem hi]; rfl
    have hq : bs.take 4 = [bs.getD 0 0, bs.getD 1 0, bs.getD 2 0, bs.getD 3 0] := by
      apply List.ext_getElem?
      intro i
      rw [List.getElem?_take]
      by_cases hi : i < 4
      · rw [if_pos hi, e i (by omega)]
        have : i = 0 ∨ i = 1 ∨ i = 2 ∨ i = 3 := by omega
        rcases this with rfl | rfl | rfl | rfl <;> rfl
      · rw [if_neg hi, List.getElem?_eq_none]
        show 4 ≤ i
        omega
    rw [hq]
    have g0 : bs.getD 0 0 = 83 := UInt8.toNat_inj.1 hs.2.2.2.2
    have g1 : b8 (bs.getD 1 0).toNat = bs.getD 1 0 := UInt8.toNat_inj.1 (b8_toNat _ hk2)
    have hl2 := (bs.getD 2 0).toNat_lt
    have hl3 := (bs.getD 3 0).toNat_lt
    have g2 : b8 (lenOf bs / 256) = bs.getD 2 0 := UInt8.toNat_inj.1 (by
      have : lenOf bs / 256 = (bs.getD 2 0).toNat := by unfold lenOf; omega
      rw [this]; exact b8_toNat _ hl2)
    have g3 : b8 (lenOf bs % 256) = bs.getD 3 0 := UInt8.toNat_inj.1 (by
      have : lenOf bs % 256 = (bs.getD 3 0).toNat := by unfold lenOf; omega
      rw [this]; exact b8_toNat _ hl3)
    unfold headOf
    rw [Int.toNat_natCast, g0, g1, g2, g3]
  rw [h4, List.take_append_drop]
/-! ### Frames one behind the other -/
def puts (l : List Fr) : List UInt8 := l.flatMap putB
theorem puts_cons (f : Fr) (l : List Fr) : puts (f :: l) = putB f ++ puts l := rfl
theorem run_puts (l : List Fr) (h : ∀ f ∈ l, putE f = 0) (more : List UInt8) : run (puts l ++ more) = (l ++ (run more).1, (puts l).length + (run more).2.1, (run more).2.2) := by
  induction l with
  | nil => simp [puts]
  | cons f l ih =>
    have hf := h f (by simp)
    obtain ⟨g1, g2, g3⟩ := putB_get hf (puts l ++ more)
    rw [puts_cons, List.append_assoc, run_ok g1, g2, g3, List.drop_left, ih (fun g hg => h g (by simp [hg]))]
    simp [Nat.add_assoc]
/-- A part of a frame lacks some. -/
theorem cut_more {f : Fr} (h : putE f = 0) (k : Nat) (h0 : 0 < k) (hk : k < (putB f).length) : getE ((putB f).take k) = 3 := by
  have h1 := putB_length h
  have hl : ((putB f).take k).length = k := by rw [List.length_take]; omega
  have hg : ∀ i, i < k → ((putB f).take k).getD i 0 = (putB f ++ []).getD i 0 := fun i hi => by
    rw [List.append_nil, List.getD_eq_getElem?_getD, List.getD_eq_getElem?_getD, List.getElem?_take, if_pos hi]
  have hp := putE_zero h
  have hs : sizeE ((putB f).take k) = 3 := by
    unfold sizeE
    rw [hl, if_neg (by omega), hg 0 h0, putB_first h [], if_neg (by omega)]
    by_cases h4 : k < 4
    · rw [if_pos h4]
    · rw [if_neg h4]
      have hn : lenOf ((putB f).take k) = f.2.length := by
        have := putB_lenOf h []
        unfold lenOf at this ⊢
        rw [hg 2 (by omega), hg 3 (by omega)]; exact this
      rw [hn, if_neg (by omega), if_pos (by omega)]
  unfold getE
  rw [if_neg (by omega), hs]
theorem bad_form {bs : List UInt8} (h0 : bs.length ≠ 0) (h : (bs.getD 0 0).toNat ≠ 83) : getE bs = 2 := by
  have hs : sizeE bs = 2 := by unfold sizeE; rw [if_neg h0, if_pos h]
  unfold getE
  rw [if_neg (by omega), hs]
end Go.Proofs.Ytnbljcbfnplbaaa

/-
  The contracts of layer 3's functions: what is put, how long what is got is.
-/
namespace Go.Proofs.Ytnbljcbfnplbaaa
open Go.RowKit

theorem put_parts {f : Fr} (h : putE f = 0) : (headOf f.1.toNat f.2.length).map byteV = [.int .u8 83, .int .u8 f.1, .int .u8 ((f.2.length : Int) / 256), .int .u8 ((f.2.length : Int) % 256)] := by
  have hp := putE_zero h
  show [byteV 83, byteV (b8 f.1.toNat), byteV (b8 (f.2.length / 256)), byteV (b8 (f.2.length % 256))] = _
  unfold byteV
  rw [b8_toNat _ (by omega), b8_toNat _ (by omega), b8_toNat _ (by omega)]
  have e1 : ((f.1.toNat : Nat) : Int) = f.1 := by omega
  rw [e1]
  rfl
set_option maxHeartbeats 1600000 in
theorem put_any (k : Int) (a : Option Addr) (cap : Nat) (bs : List UInt8) (w : World) (hb : CellsB w a bs) (hz : a = none → bs.length = 0) :
    Calls Try.prog 46 #[.agg #[.int .i64 k, .slice a bs.length cap]] w (RetRowE 5 1 (putB (k, bs)).length ((putB (k, bs)).map byteV) (putE (k, bs)) w) := by
  have HZ := Lib.hid hz
  clear hz
  by_cases h1 : k < 0
  · have he : Hid (putE (k, bs) = 1 ∧ putB (k, bs) = []) := by
      have : putE (k, bs) = 1 := by unfold putE; rw [if_pos (.inl h1)]
      exact ⟨this, putB_none (by omega)⟩
    clear hb
    go_enter Try.func46, Try.ntmps46
    go_wp2
    go_ret2
    rw [he.out.1, he.out.2]
    exact ⟨none, 0, rfl, World.ownsRow_nil _ _ _ _, (Below.refl _ _).alloc (Nat.le_refl _) _⟩
  · by_cases h2 : 255 < k
    · have he : Hid (putE (k, bs) = 1 ∧ putB (k, bs) = []) := by
        have : putE (k, bs) = 1 := by unfold putE; rw [if_pos (.inr h2)]
        exact ⟨this, putB_none (by omega)⟩
      clear hb
      go_enter Try.func46, Try.ntmps46
      go_wp2
      go_ret2
      rw [he.out.1, he.out.2]
      exact ⟨none, 0, rfl, World.ownsRow_nil _ _ _ _, (Below.refl _ _).alloc (Nat.le_refl _) _⟩
    · by_cases h3 : (4096 : Int) < (bs.length : Int)
      · have he : Hid (putE (k, bs) = 7 ∧ putB (k, bs) = []) := by
          have : putE (k, bs) = 7 := by unfold putE; rw [if_neg (by omega), if_pos (by show 4096 < bs.length; omega)]
          exact ⟨this, putB_none (by omega)⟩
        clear hb
        go_enter Try.func46, Try.ntmps46
        go_wp2
        go_ret2
        rw [he.out.1, he.out.2]
        exact ⟨none, 0, rfl, World.ownsRow_nil _ _ _ _, (Below.refl _ _).alloc (Nat.le_refl _) _⟩
      · have h0 : putE (k, bs) = 0 := by unfold putE; rw [if_neg (by omega), if_neg (by show ¬ 4096 < bs.length; omega)]
        have he : Hid (putE (k, bs) = 0 ∧ putB (k, bs) = sealed (headOf k.toNat bs.length ++ bs)) := ⟨h0, putB_eq h0⟩
        have hp := Lib.hid (put_parts h0)
        have hl : Hid ((headOf k.toNat bs.length ++ bs).length = 4 + bs.length) := by rw [Hid, List.length_append, headOf_length]
        have hs : Hid (∀ W A c, CellsB W A (headOf k.toNat bs.length ++ bs) → (A = none → 4 + bs.length = 0) → Calls Try.prog 58 #[.slice A (4 + bs.length) c] W (RetRow 5 1 (putB (k, bs)).length ((putB (k, bs)).map byteV) W)) := fun W A c h hz => by
          have := sealB_any A c (headOf k.toNat bs.length ++ bs) W h (by rw [hl.out]; exact hz) (by rw [hl.out]; omega)
          rw [he.out.2, sealed_length]
          rwa [hl.out] at this ⊢
        have hown0 := own_lit1 (w := w) (base := w.heap.size) (e := 5) (size := 1) (.cells #[.int .i64 k, .slice a bs.length cap] 77) #[.int .u8 83, .int .u8 k, .int .u8 ((bs.length : Int) / 256), .int .u8 ((bs.length : Int) % 256)] 4 (by omega) (by unfold maxLen; omega) rfl
        clear h0
        go_enter Try.func46, Try.ntmps46
        go_wp2_with (first
          | (at_builtin; refine wpList_append_row rfl (.tmp 32) (.tmp 34) rfl elemB w.heap.size (.slice (some ⟨w.heap.size + 1, 0, none⟩) 4 4) 4 ((headOf k.toNat bs.length).map byteV) (by rfl) (by rw [hp.out]; exact hown0) a bs.length cap (bs.map byteV) (by rfl) (by simp) ((RowAt.alloc hb _).alloc _) (byteV_one _) (by unfold maxLen; omega) (by omega) (by simp; omega) HZ.out ?_; intro a1 c1 w1 hown1 hg1 hat1; have hb1 : Below w.heap.size w w1 := Below.appended (((Below.refl _ _).alloc (Nat.le_refl _) _).alloc (by simp) _) hown0 hg1 (by simp; omega) (Nat.le_refl _); rw [← List.map_append] at hown1; clear hat1 hg1)
          | (go_at_call 58; refine (hs.out _ a1 c1 (RowAt.of_own hown1) (own_none hown1)).mono ?_; rintro e w2 ⟨a2, c2, rfl, hown2, hb2⟩))
        go_ret2
        rw [he.out.1]
        exact ⟨a2, c2, rfl, own_base hown2 hb1.size, bt hb1 hb2⟩
set_option maxHeartbeats 1600000 in
theorem refPut_any (k : Int) (a : Option Addr) (cap : Nat) (bs : List UInt8) (w : World) (hb : CellsB w a bs) (hz : a = none → bs.length = 0) :
    Calls Try.prog 51 #[.agg #[.int .i64 k, .slice a bs.length cap]] w (RetRowE 5 1 (putB (k, bs)).length ((putB (k, bs)).map byteV) (putE (k, bs)) w) := by
  have HZ := Lib.hid hz
  clear hz
  by_cases h1 : k < 0
  · have he : Hid (putE (k, bs) = 1 ∧ putB (k, bs) = []) := by
      have : putE (k, bs) = 1 := by unfold putE; rw [if_pos (.inl h1)]
      exact ⟨this, putB_none (by omega)⟩
    clear hb
    go_enter Try.func51, Try.ntmps51
    go_wp2
    go_ret2
    rw [he.out.1, he.out.2]
    exact ⟨none, 0, rfl, World.ownsRow_nil _ _ _ _, (Below.refl _ _).alloc (Nat.le_refl _) _⟩
  · by_cases h2 : 255 < k
    · have he : Hid (putE (k, bs) = 1 ∧ putB (k, bs) = []) := by
        have : putE (k, bs) = 1 := by unfold putE; rw [if_pos (.inr h2)]
        exact ⟨this, putB_none (by omega)⟩
      clear hb
      go_enter Try.func51, Try.ntmps51
      go_wp2
      go_ret2
      rw [he.out.1, he.out.2]
      exact ⟨none, 0, rfl, World.ownsRow_nil _ _ _ _, (Below.refl _ _).alloc (Nat.le_refl _) _⟩
    · by_cases h3 : (4096 : Int) < (bs.length : Int)
      · have he : Hid (putE (k, bs) = 7 ∧ putB (k, bs) = []) := by
          have : putE (k, bs) = 7 := by unfold putE; rw [if_neg (by omega), if_pos (by show 4096 < bs.length; omega)]
          exact ⟨this, putB_none (by omega)⟩
        clear hb
        go_enter Try.func51, Try.ntmps51
        go_wp2
        go_ret2
        rw [he.out.1, he.out.2]
        exact ⟨none, 0, rfl, World.ownsRow_nil _ _ _ _, (Below.refl _ _).alloc (Nat.le_refl _) _⟩
      · have h0 : putE (k, bs) = 0 := by unfold putE; rw [if_neg (by omega), if_neg (by show ¬ 4096 < bs.length; omega)]
        have he : Hid (putE (k, bs) = 0 ∧ putB (k, bs) = sealed (headOf k.toNat bs.length ++ bs)) := ⟨h0, putB_eq h0⟩
        have hp := Lib.hid (put_parts h0)
        have hl : Hid ((headOf k.toNat bs.length ++ bs).length = 4 + bs.length) := by rw [Hid, List.length_append, headOf_length]
        have hs : Hid (∀ W A c, CellsB W A (headOf k.toNat bs.length ++ bs) → (A = none → 4 + bs.length = 0) → Calls Try.prog 64 #[.slice A (4 + bs.length) c] W (RetRow 5 1 (putB (k, bs)).length ((putB (k, bs)).map byteV) W)) := fun W A c h hz => by
          have := refSeal_any A c (headOf k.toNat bs.length ++ bs) W h (by rw [hl.out]; exact hz) (by rw [hl.out]; omega)
          rw [he.out.2, sealed_length]
          rwa [hl.out] at this ⊢
        have hown0 := own_lit1 (w := w) (base := w.heap.size) (e := 5) (size := 1) (.cells #[.int .i64 k, .slice a bs.length cap] 77) #[.int .u8 83, .int .u8 k, .int .u8 ((bs.length : Int) / 256), .int .u8 ((bs.length : Int) % 256)] 4 (by omega) (by unfold maxLen; omega) rfl
        clear h0
        go_enter Try.func51, Try.ntmps51
        go_wp2_with (first
          | (at_builtin; refine wpList_append_row rfl (.tmp 29) (.tmp 31) rfl elemB w.heap.size (.slice (some ⟨w.heap.size + 1, 0, none⟩) 4 4) 4 ((headOf k.toNat bs.length).map byteV) (by rfl) (by rw [hp.out]; exact hown0) a bs.length cap (bs.map byteV) (by rfl) (by simp) ((RowAt.alloc hb _).alloc _) (byteV_one _) (by unfold maxLen; omega) (by omega) (by simp; omega) HZ.out ?_; intro a1 c1 w1 hown1 hg1 hat1; have hb1 : Below w.heap.size w w1 := Below.appended (((Below.refl _ _).alloc (Nat.le_refl _) _).alloc (by simp) _) hown0 hg1 (by simp; omega) (Nat.le_refl _); rw [← List.map_append] at hown1; clear hat1 hg1)
          | (go_at_call 64; refine (hs.out _ a1 c1 (RowAt.of_own hown1) (own_none hown1)).mono ?_; rintro e w2 ⟨a2, c2, rfl, hown2, hb2⟩))
        go_ret2
        rw [he.out.1]
        exact ⟨a2, c2, rfl, own_base hown2 hb1.size, bt hb1 hb2⟩
theorem ret_two_int {a b c : Int} (h : a = b) : Ending.returned (.tuple #[.int .i64 a, .int .i64 c]) = .returned (.tuple #[.int .i64 b, .int .i64 c]) := by rw [h]
theorem or_form (a b : Nat) (ha : a < 256) (hb : b < 256) : bits .or .i64 ((a : Int) * 256) (b : Int) = ((a * 256 + b : Nat) : Int) := by
  have hk : ∀ n : Int, 0 ≤ n → n < 2 ^ 62 → IntKind.i64.wrap n = n := fun n h0 h1 => by rw [IntKind.wrap_i64]; omega
  have := bits_join .i64 62 (by decide) hk 8 ((a : Int) * 256) (b : Int) (by omega) (by omega) (by omega) (by omega) (by omega) (by omega)
  rw [this]; omega
theorem CellsB.pick {w : World} {a : Option Addr} {bs : List UInt8} (h : CellsB w a bs) {b off : Nat} (ha : a = some ⟨b, off, none⟩) {k : Nat} (hk : k < bs.length) : w.cell? ⟨b, off + k, none⟩ = some (.int .u8 ((bs.getD k 0).toNat : Int)) := by
  obtain ⟨b', off', ha', _, hc⟩ := h.at hk
  rw [ha] at ha'
  cases ha'
  exact hc
set_option maxHeartbeats 1600000 in
theorem size_any (a : Option Addr) (cap : Nat) (bs : List UInt8) (w : World) (hb : CellsB w a bs) (hl : bs.length ≤ 900000) :
    Calls Try.prog 59 #[.slice a bs.length cap] w fun e w' => e = .returned (.tuple #[.int .i64 (sizeN bs), .int .i64 (sizeE bs)]) ∧ Below w.heap.size w w' := by
  by_cases h0 : bs.length = 0
  · have he : Hid (sizeE bs = 3 ∧ sizeN bs = 0) := by
      have : sizeE bs = 3 := by unfold sizeE; rw [if_pos h0]
      exact ⟨this, by unfold sizeN; rw [if_neg (by omega)]⟩
    have ht : ((bs.length : Int) == 0) = true := by simp [h0]
    clear hb h0
    go_enter Try.func59, Try.ntmps59
    go_wp2
    go_ret2
    rw [he.out.1, he.out.2]
    exact ⟨rfl, Below.refl _ _⟩
  · have ht : ((bs.length : Int) == 0) = false := beq_eq_false_iff_ne.2 (by omega)
    have hp : 0 < bs.length := by omega
    obtain ⟨b, off, rfl, hbl, hc0⟩ := hb.at hp
    have hc0' : w.cell? ⟨b, off, none⟩ = some (.int .u8 ((bs.getD 0 0).toNat : Int)) := hc0
    clear hc0
    by_cases h1 : (bs.getD 0 0).toNat = 83
    · by_cases h4 : bs.length < 4
      · have he : Hid (sizeE bs = 3 ∧ sizeN bs = 0) := by
          have : sizeE bs = 3 := by unfold sizeE; rw [if_neg h0, if_neg (fun h => h h1), if_pos h4]
          exact ⟨this, by unfold sizeN; rw [if_neg (by omega)]⟩
        have ht1 : (((bs.getD 0 0).toNat : Int) != 83) = false := by rw [h1]; rfl
        have h4i : (bs.length : Int) < 4 := by omega
        clear hb h1
        generalize (bs.getD 0 0).toNat = B0 at hc0' ht1
        go_enter Try.func59, Try.ntmps59
        go_wp2
        go_ret2
        rw [he.out.1, he.out.2]
        exact ⟨rfl, Below.refl _ _⟩
      · have hc2 := hb.pick rfl (k := 2) (by omega)
        have hc3 := hb.pick rfl (k := 3) (by omega)
        have HN : Hid (lenOf bs = (bs.getD 2 0).toNat * 256 + (bs.getD 3 0).toNat) := rfl
        have hl2 := (bs.getD 2 0).toNat_lt
        have hl3 := (bs.getD 3 0).toNat_lt
        have ht1 : (((bs.getD 0 0).toNat : Int) != 83) = false := by rw [h1]; rfl
        have h4i : (4 : Int) ≤ (bs.length : Int) := by omega
        have hi2 : (2 : Int) < (bs.length : Int) := by omega
        have hi3 : (3 : Int) < (bs.length : Int) := by omega
        have hE : Hid (sizeE bs = if 4096 < lenOf bs then 7 else if bs.length < lenOf bs + 8 then 3 else 0) := by
          unfold sizeE; rw [Hid, if_neg h0, if_neg (fun h => h h1), if_neg h4]
        clear h1 hb
        generalize (bs.getD 0 0).toNat = B0 at hc0' ht1
        generalize (bs.getD 2 0).toNat = B2 at hc2 HN hl2
        generalize (bs.getD 3 0).toNat = B3 at hc3 HN hl3
        have hor := or_form B2 B3 hl2 hl3
        rw [← HN.out] at hor
        have hL : lenOf bs < 65536 := by rw [HN.out]; omega
        have hN : Hid (sizeN bs = if sizeE bs = 0 then lenOf bs + 8 else 0) := rfl
        clear HN
        generalize lenOf bs = L at hor hL hE hN
        by_cases h5 : (4096 : Int) < (L : Int)
        · have he : Hid (sizeE bs = 7 ∧ sizeN bs = 0) := by
            have : sizeE bs = 7 := by rw [hE.out, if_pos (by omega)]
            exact ⟨this, by rw [hN.out, if_neg (by omega)]⟩
          go_enter Try.func59, Try.ntmps59
          go_wp2
          go_quiet (fail)
          go_wp2
          go_ret2
          rw [he.out.1, he.out.2]
          exact ⟨rfl, below_drewN (Below.refl _ _) _⟩
        · by_cases h6 : (bs.length : Int) < (L : Int) + 8
          · have he : Hid (sizeE bs = 3 ∧ sizeN bs = 0) := by
              have : sizeE bs = 3 := by rw [hE.out, if_neg (by omega), if_pos (by omega)]
              exact ⟨this, by rw [hN.out, if_neg (by omega)]⟩
            go_enter Try.func59, Try.ntmps59
            go_wp2
            go_quiet (fail)
            go_wp2
            go_ret2
            rw [he.out.1, he.out.2]
            exact ⟨rfl, below_drewN (Below.refl _ _) _⟩
          · have he : Hid (sizeE bs = 0 ∧ sizeN bs = L + 8) := by
              have : sizeE bs = 0 := by rw [hE.out, if_neg (by omega), if_neg (by omega)]
              exact ⟨this, by rw [hN.out, if_pos this]⟩
            go_enter Try.func59, Try.ntmps59
            go_wp2
            go_quiet (fail)
            go_wp2
            go_ret2
            rw [he.out.1, he.out.2]
            exact ⟨ret_two_int (by omega), below_drewN (Below.refl _ _) _⟩
    · have he : Hid (sizeE bs = 2 ∧ sizeN bs = 0) := by
        have : sizeE bs = 2 := by unfold sizeE; rw [if_neg h0, if_pos h1]
        exact ⟨this, by unfold sizeN; rw [if_neg (by omega)]⟩
      have ht1 : (((bs.getD 0 0).toNat : Int) != 83) = true := by
        simp only [bne_iff_ne, ne_eq]; omega
      clear hb h1
      generalize (bs.getD 0 0).toNat = B0 at hc0' ht1
      go_enter Try.func59, Try.ntmps59
      go_wp2
      go_ret2
      rw [he.out.1, he.out.2]
      exact ⟨rfl, Below.refl _ _⟩
end Go.Proofs.Ytnbljcbfnplbaaa

/-
  The contracts of layer 3's functions: what is got.
-/
namespace Go.Proofs.Ytnbljcbfnplbaaa
open Go.RowKit

/-- A frame, how many bytes it has, and an error. -/
def RetGet (f : Fr) (n : Nat) (err : Int) (w : World) (en : Ending) (w' : World) : Prop :=
  ∃ a cap, en = .returned (.tuple #[.agg #[.int .i64 f.1, .slice a f.2.length cap], .int .i64 n, .int .i64 err]) ∧ CellsB w' a f.2 ∧ (a = none → f.2.length = 0) ∧ (f.2.length ≤ cap ∧ (f.2.length ≠ 0 → ∀ b off, a = some ⟨b, off, none⟩ → w.heap.size ≤ b)) ∧ Below w.heap.size w w'
set_option maxHeartbeats 1600000 in
theorem get_any (a : Option Addr) (cap : Nat) (bs : List UInt8) (w : World) (hb : CellsB w a bs) (hcap : bs.length ≤ cap) (hl : bs.length ≤ 900000) :
    Calls Try.prog 47 #[.slice a bs.length cap] w (RetGet (getF bs) (getN bs) (getE bs) w) := by
  have hs : ∀ W, CellsB W a bs → Calls Try.prog 59 #[.slice a bs.length cap] W fun e w' => e = .returned (.tuple #[.int .i64 (sizeN bs), .int .i64 (sizeE bs)]) ∧ Below W.heap.size W w' := fun W h => size_any a cap bs W h hl
  have HS := Lib.hid hs
  clear hs
  by_cases h1 : sizeE bs = 0
  · have hn := sizeN_pos h1
    have hnc : sizeN bs ≤ cap := by omega
    have hlb : sizeN bs ≤ bs.length := hn.2.1
    have htl : Hid ((bs.take (sizeN bs)).length = sizeN bs) := by rw [Hid, List.length_take]; omega
    have ho : Hid (∀ W, CellsB W a bs → Calls Try.prog 60 #[.slice a (sizeN bs) cap] W (RetRowOk 5 1 (opened (bs.take (sizeN bs))).length ((opened (bs.take (sizeN bs))).map byteV) (opens (bs.take (sizeN bs))) W)) := fun W h => by
      have := open_any a cap (bs.take (sizeN bs)) W (h.take _) (by rw [htl.out]; exact hnc) (by rw [htl.out]; omega)
      rwa [htl.out] at this
    rw [h1] at HS
    have hs1 := fun W => slice_to a bs.length cap (sizeN bs) hnc W
    by_cases h2 : opens (bs.take (sizeN bs)) = true
    · have he : Hid (getE bs = 0 ∧ getN bs = sizeN bs) := by
        have : getE bs = 0 := by unfold getE; rw [if_pos h1, if_pos h2]
        exact ⟨this, by unfold getN; rw [if_pos this]⟩
      have hx : Hid (opened (bs.take (sizeN bs)) = (bs.take (sizeN bs)).take (sizeN bs - 4)) := by unfold opened; rw [Hid, if_pos h2, htl.out]
      have hf : Hid (getF bs = (((bs.getD 1 0).toNat : Int), ((bs.take (sizeN bs)).take (sizeN bs - 4)).drop 4)) := by unfold getF; rw [Hid, if_pos he.out.1]
      rw [h2, hx.out] at ho
      have hlx : Hid (((bs.take (sizeN bs)).take (sizeN bs - 4)).length = sizeN bs - 4) := by rw [Hid, List.length_take, htl.out]; omega
      have hg1 : Hid ((((bs.take (sizeN bs)).take (sizeN bs - 4)).getD 1 0).toNat = (bs.getD 1 0).toNat) := by
        congr 1
        rw [ List.getD_eq_getElem?_getD, List.getD_eq_getElem?_getD, List.getElem?_take, if_pos (by omega), List.getElem?_take, if_pos (by omega)]
      rw [hlx.out] at ho
      generalize (bs.take (sizeN bs)).take (sizeN bs - 4) = X at ho hx hf hlx hg1
      generalize hm : sizeN bs - 4 = m at ho hlx
      have hm4 : 4 ≤ m := by omega
      have hmb : m ≤ 4100 := by omega
      clear hn hm h1 h2 htl hlb
      generalize sizeN bs = n at HS ho he hs1 hnc
      have hcl : Hid (∀ W g c A4, CellsB W (some ⟨g, 0, none⟩) X → m ≤ c → (if c = 4 then some (⟨g, 0, none⟩ : Addr) else some ⟨g, 4, none⟩) = A4 → Calls Try.prog 28 #[.slice A4 (m - 4) (c - 4)] W (RetRow 5 1 (X.drop 4).length ((X.drop 4).map byteV) W)) := fun W g c A4 h hc hA => by
        have hl4 : (X.drop 4).length = m - 4 := by rw [List.length_drop, hlx.out]
        have e : (if c = 4 then some (⟨g, 0, none⟩ : Addr) else some ⟨g, 4, none⟩) = cutA (some ⟨g, 0, none⟩) c 4 := by unfold cutA; rfl
        have := cloneC_any (cutA (some ⟨g, 0, none⟩) c 4) (c - 4) (X.drop 4) W (h.cut c 4 (by rw [hlx.out]; exact hc)) (by rw [hl4]; exact cutA_none (by simp)) (by rw [hl4]; omega)
        rw [← hA, e]
        rwa [hl4] at this ⊢
      generalize X.drop 4 = Y at hcl hf
      have hB := (bs.getD 1 0).toNat_lt
      generalize (bs.getD 1 0).toNat = B1 at hf hB hg1
      have hw : IntKind.i64.wrap (B1 : Int) = (B1 : Int) := by rw [IntKind.wrap_i64]; omega
      have HW := Lib.hid hw
      clear hw
      go_enter Try.func47, Try.ntmps47
      go_wp2_with (first
        | (go_at_call 59; refine (HS.out _ (RowAt.alloc hb _)).mono ?_; rintro e w1 ⟨rfl, hb1⟩)
        | (go_at_call 60; refine (ho.out _ (hb.below (alloc_below hb1))).mono ?_; rintro e w2 ⟨a2, cap2, rfl, hown2, hd2⟩; have hb2 := hb1.trans (hd2.mono hb1.size); obtain ⟨hc0, hc1, hf0, hf1, hlt⟩ := two_cells hb2))
      obtain ⟨g, cg, hv, hgb, hgl⟩ := hown2.form (by omega)
      cases hv
      have hcx := CellsB.pick (w := w2) (bs := X) (RowAt.of_own hown2) rfl (k := 1) (by rw [hlx.out]; omega)
      rw [hg1.out] at hcx
      have hlt2 := hlt
      have hgw : w.heap.size < g := by have := hb1.size; simp at this; omega
      have hmi : (4 : Int) ≤ (m : Int) := by omega
      have hmj : (1 : Int) < (m : Int) := by omega
      have hmc : m ≤ cap2 := own_le hown2
      have hw := HW.out
      have hbd : Below w2.heap.size w2 w2.drew := (Below.refl _ _).drew
      go_region_held3 (fun W => W.cell? ⟨g, 1, none⟩ = some (.int .u8 (B1 : Int))) (first | exact hcx | exact hcx3 | exact (hfar _ _).trans hcx3) ((go_at_call 28; generalize hA : (if cap2 = 4 then some (⟨g, 0, none⟩ : Addr) else some ⟨g, 4, none⟩) = A4; refine (hcl.out _ g cap2 A4 (by exact RowAt.of_own hown2) hmc hA).mono ?_; clear hA; rintro e w3 ⟨a3, cap3, rfl, hown3, hd3⟩; have hb3 := hb2.trans ((bt hbd hd3).mono hb2.size); obtain ⟨hc0, hc1, hf0, hf1, hlt⟩ := two_cells hb3; have hcx3 : w3.cell? ⟨g, 1, none⟩ = some (.int .u8 (B1 : Int)) := ((bt hbd hd3).cell (p := ⟨g, 1, none⟩) hgl).trans hcx; have hfar : ∀ u v, ((w3.setCell ⟨w.heap.size, 0, none⟩ u).setCell ⟨w.heap.size, 1, none⟩ v).cell? ⟨g, 1, none⟩ = w3.cell? ⟨g, 1, none⟩ := (fun u v => World.cell?_of_block ((Below.heap_setCell _ ⟨w.heap.size, 1, none⟩ v g (by show g ≠ w.heap.size; omega)).trans (Below.heap_setCell _ ⟨w.heap.size, 0, none⟩ u g (by show g ≠ w.heap.size; omega))))))
      clear hw
      go_wp2
      refine bodyPost_ret (v := .tuple #[.agg #[.int .i64 (B1 : Int), .slice a3 Y.length cap3], .int .i64 (n : Int), .int .i64 0]) (by simp [results, Try.results47, go_sem, hc0, hc1]) rfl ?_
      rw [he.out.1, he.out.2, hf.out]
      have hwl : w.heap.size < w2.drew.heap.size := hlt2
      exact ⟨a3, cap3, rfl, RowAt.of_own (ownsRow_setCell_below (ownsRow_setCell_below hown3 (a := ⟨w.heap.size, 0, none⟩) hwl _) (a := ⟨w.heap.size, 1, none⟩) hwl _), own_none hown3, ⟨own_le hown3, fun h0 b off ha => Nat.le_trans (Nat.le_of_lt hlt2) (own_from hown3 h0 b off ha)⟩, (((alloc_below hb3).setCell (p := ⟨w.heap.size, 0, none⟩) (Nat.le_refl _) _).setCell (p := ⟨w.heap.size, 1, none⟩) (Nat.le_refl _) _)⟩
    · have he : Hid (getE bs = 4 ∧ getN bs = 0 ∧ getF bs = (0, [])) := by
        have : getE bs = 4 := by unfold getE; rw [if_pos h1, if_neg h2]
        exact ⟨this, by unfold getN; rw [if_neg (by omega)], by unfold getF; rw [if_neg (by omega)]⟩
      have h2 : opens (bs.take (sizeN bs)) = false := by simpa using h2
      have hx : Hid (opened (bs.take (sizeN bs)) = []) := by unfold opened; rw [Hid, if_neg (by rw [h2]; decide)]
      rw [h2, hx.out] at ho
      clear h1 h2 htl hlb hn
      generalize sizeN bs = n at HS ho hs1 hnc
      go_enter Try.func47, Try.ntmps47
      go_wp2_with (first
        | (go_at_call 59; refine (HS.out _ (RowAt.alloc hb _)).mono ?_; rintro e w1 ⟨rfl, hb1⟩)
        | (go_at_call 60; refine (ho.out _ (hb.below (alloc_below hb1))).mono ?_; rintro e w2 ⟨a2, cap2, rfl, hown2, hd2⟩; have hb2 := hb1.trans (hd2.mono hb1.size); obtain ⟨hc0, hc1, hf0, hf1, hlt⟩ := two_cells hb2))
      go_wp2
      refine bodyPost_ret (v := .tuple #[.agg #[.int .i64 0, .slice none 0 0], .int .i64 0, .int .i64 4]) (by simp [results, Try.results47, go_sem, hc0, hc1]) rfl ?_
      rw [he.out.1, he.out.2.1, he.out.2.2]
      exact ⟨none, 0, rfl, RowAt.nil, fun _ => rfl, ⟨Nat.le_refl _, fun h => (h rfl).elim⟩, ((alloc_below hb2).setCell (p := ⟨w.heap.size, 0, none⟩) (Nat.le_refl _) _).setCell (p := ⟨w.heap.size, 1, none⟩) (Nat.le_refl _) _⟩
  · have he : Hid (getE bs = sizeE bs ∧ getN bs = 0 ∧ getF bs = (0, [])) := by
      have : getE bs = sizeE bs := by unfold getE; rw [if_neg h1]
      exact ⟨this, by unfold getN; rw [if_neg (by omega)], by unfold getF; rw [if_neg (by omega)]⟩
    have hn : Hid (sizeN bs = 0) := by unfold sizeN; rw [Hid, if_neg h1]
    have ht : (sizeE bs != 0) = true := by simpa using h1
    generalize sizeE bs = E at HS he ht
    clear h1
    go_enter Try.func47, Try.ntmps47
    go_wp2_with (go_at_call 59; refine (HS.out _ (RowAt.alloc hb _)).mono ?_; rintro e w1 ⟨rfl, hb1⟩; obtain ⟨hc0, hc1, hf0, hf1, hlt⟩ := two_cells hb1)
    go_wp2
    refine bodyPost_ret (v := .tuple #[.agg #[.int .i64 0, .slice none 0 0], .int .i64 0, .int .i64 E]) (by simp [results, Try.results47, go_sem, hc0, hc1]) rfl ?_
    rw [he.out.1, he.out.2.1, he.out.2.2]
    exact ⟨none, 0, rfl, RowAt.nil, fun _ => rfl, ⟨Nat.le_refl _, fun h => (h rfl).elim⟩, ((alloc_below hb1).setCell (p := ⟨w.heap.size, 0, none⟩) (Nat.le_refl _) _).setCell (p := ⟨w.heap.size, 1, none⟩) (Nat.le_refl _) _⟩
end Go.Proofs.Ytnbljcbfnplbaaa

/-
  The contracts of layer 3's functions: what the document gets.
-/
namespace Go.Proofs.Ytnbljcbfnplbaaa
open Go.RowKit

theorem get_err {bs : List UInt8} {E : Int} (h : sizeE bs = E) (h0 : E ≠ 0) : getE bs = E ∧ getN bs = 0 ∧ getF bs = (0, []) := by
  have : getE bs = E := by unfold getE; rw [if_neg (by omega), h]
  exact ⟨this, by unfold getN; rw [if_neg (by omega)], by unfold getF; rw [if_neg (by omega)]⟩
theorem get_bad {bs : List UInt8} (h : sizeE bs = 0) (ho : opens (bs.take (sizeN bs)) = false) : getE bs = 4 ∧ getN bs = 0 ∧ getF bs = (0, []) := by
  have : getE bs = 4 := by unfold getE; rw [if_pos h, if_neg (by rw [ho]; decide)]
  exact ⟨this, by unfold getN; rw [if_neg (by omega)], by unfold getF; rw [if_neg (by omega)]⟩
theorem get_good {bs : List UInt8} (h : sizeE bs = 0) (ho : opens (bs.take (sizeN bs)) = true) : getE bs = 0 ∧ getN bs = sizeN bs ∧ getF bs = (((bs.getD 1 0).toNat : Int), (opened (bs.take (sizeN bs))).drop 4) := by
  have hn := sizeN_pos h
  have : getE bs = 0 := by unfold getE; rw [if_pos h, if_pos ho]
  have hl : (bs.take (sizeN bs)).length = sizeN bs := by rw [List.length_take]; omega
  exact ⟨this, by unfold getN; rw [if_pos this], by unfold getF opened; rw [if_pos this, if_pos ho, hl]⟩
/-- Two blocks of two cells that were made ahead of what followed. -/
theorem two_blocks {w w1 : World} {x y u v : Value} {t : TypeId} (hb : Below ((w.alloc (.cells #[x, y] t)).alloc (.cells #[u, v] t)).heap.size ((w.alloc (.cells #[x, y] t)).alloc (.cells #[u, v] t)) w1) :
    w1.cell? ⟨w.heap.size, 0, none⟩ = some x ∧ w1.cell? ⟨w.heap.size, 1, none⟩ = some y ∧ w1.cell? ⟨w.heap.size + 1, 0, none⟩ = some u ∧ w1.cell? ⟨w.heap.size + 1, 1, none⟩ = some v ∧
    w1.frozen? ⟨w.heap.size, 0, none⟩ = false ∧ w1.frozen? ⟨w.heap.size, 1, none⟩ = false ∧ w.heap.size + 1 < w1.heap.size ∧ Below w.heap.size w w1 := by
  have hs : (w.alloc (.cells #[x, y] t)).heap.size = w.heap.size + 1 := by simp
  have h1 := two_cells hb
  rw [hs] at h1
  have h2 : Below (w.alloc (.cells #[x, y] t)).heap.size (w.alloc (.cells #[x, y] t)) w1 := alloc_below hb
  have h3 := two_cells h2
  exact ⟨h3.1, h3.2.1, h1.1, h1.2.1, h3.2.2.1, h3.2.2.2.1, h1.2.2.2.2, alloc_below h2⟩
set_option maxHeartbeats 3200000 in
theorem refGet_any (a : Option Addr) (cap : Nat) (bs : List UInt8) (w : World) (hb : CellsB w a bs) (hcap : bs.length ≤ cap) (hz : a = none → bs.length = 0) (hl : bs.length ≤ 900000) :
    Calls Try.prog 37 #[.slice a bs.length cap] w (RetGet (getF bs) (getN bs) (getE bs) w) := by
  by_cases h0 : bs.length = 0
  · have he := Lib.hid (get_err (bs := bs) (E := 3) (by unfold sizeE; rw [if_pos h0]) (by omega))
    have ht : ((bs.length : Int) == 0) = true := by simp [h0]
    clear hb h0 hz
    go_enter Try.func37, Try.ntmps37
    go_wp2
    refine bodyPost_ret (v := .tuple #[.agg #[.int .i64 0, .slice none 0 0], .int .i64 0, .int .i64 3]) (by simp [results, Try.results37, go_sem]) rfl ?_
    rw [he.out.1, he.out.2.1, he.out.2.2]
    exact ⟨none, 0, rfl, RowAt.nil, fun _ => rfl, ⟨Nat.le_refl _, fun h => (h rfl).elim⟩, ((Below.refl _ _).alloc (Nat.le_refl _) _).alloc (by simp) _⟩
  · have ht : ((bs.length : Int) == 0) = false := beq_eq_false_iff_ne.2 (by omega)
    have hp : 0 < bs.length := by omega
    obtain ⟨b, off, rfl, hbl, hc0⟩ := hb.at hp
    have hc0' : w.cell? ⟨b, off, none⟩ = some (.int .u8 ((bs.getD 0 0).toNat : Int)) := hc0
    clear hc0
    by_cases h1 : (bs.getD 0 0).toNat = 83
    · have ht1 : (((bs.getD 0 0).toNat : Int) != 83) = false := by rw [h1]; rfl
      by_cases h4 : bs.length < 4
      · have he := Lib.hid (get_err (bs := bs) (E := 3) (by unfold sizeE; rw [if_neg h0, if_neg (fun h => h h1), if_pos h4]) (by omega))
        have h4i : (bs.length : Int) < 4 := by omega
        clear hb h1 hz
        generalize (bs.getD 0 0).toNat = B0 at hc0' ht1
        go_enter Try.func37, Try.ntmps37
        go_wp2
        refine bodyPost_ret (v := .tuple #[.agg #[.int .i64 0, .slice none 0 0], .int .i64 0, .int .i64 3]) (by simp [results, Try.results37, go_sem]) rfl ?_
        rw [he.out.1, he.out.2.1, he.out.2.2]
        exact ⟨none, 0, rfl, RowAt.nil, fun _ => rfl, ⟨Nat.le_refl _, fun h => (h rfl).elim⟩, ((Below.refl _ _).alloc (Nat.le_refl _) _).alloc (by simp) _⟩
      · have hc2 := hb.pick rfl (k := 2) (by omega)
        have hc3 := hb.pick rfl (k := 3) (by omega)
        have hc1 := hb.pick rfl (k := 1) (by omega)
        have HN : Hid (lenOf bs = (bs.getD 2 0).toNat * 256 + (bs.getD 3 0).toNat) := rfl
        have hl2 := (bs.getD 2 0).toNat_lt
        have hl3 := (bs.getD 3 0).toNat_lt
        have h4i : (4 : Int) ≤ (bs.length : Int) := by omega
        have hi1 : (1 : Int) < (bs.length : Int) := by omega
        have hi2 : (2 : Int) < (bs.length : Int) := by omega
        have hi3 : (3 : Int) < (bs.length : Int) := by omega
        have hE : Hid (sizeE bs = if 4096 < lenOf bs then 7 else if bs.length < lenOf bs + 8 then 3 else 0) := by
          unfold sizeE; rw [Hid, if_neg h0, if_neg (fun h => h h1), if_neg h4]
        have hN : Hid (sizeE bs = 0 → sizeN bs = lenOf bs + 8) := fun h => by unfold sizeN; rw [if_pos h]
        have HC1 := Lib.hid hc1
        clear h1 hc1
        generalize (bs.getD 0 0).toNat = B0 at hc0' ht1
        generalize (bs.getD 2 0).toNat = B2 at hc2 HN hl2
        generalize (bs.getD 3 0).toNat = B3 at hc3 HN hl3
        have hsum : (B2 : Int) * 256 + (B3 : Int) = (lenOf bs : Int) := by rw [HN.out]; omega
        have hL : lenOf bs < 65536 := by rw [HN.out]; omega
        clear HN
        generalize lenOf bs = L at hsum hL hE hN
        by_cases h5 : (4096 : Int) < (L : Int)
        · have he := Lib.hid (get_err (bs := bs) (E := 7) (by rw [hE.out, if_pos (by omega)]) (by omega))
          clear hz hb
          go_enter Try.func37, Try.ntmps37
          go_wp2
          go_quiet (fail)
          go_wp2
          refine bodyPost_ret (v := .tuple #[.agg #[.int .i64 0, .slice none 0 0], .int .i64 0, .int .i64 7]) (by simp [results, Try.results37, go_sem]) rfl ?_
          rw [he.out.1, he.out.2.1, he.out.2.2]
          exact ⟨none, 0, rfl, RowAt.nil, fun _ => rfl, ⟨Nat.le_refl _, fun h => (h rfl).elim⟩, ((((below_drewN (((Below.refl _ _).alloc (Nat.le_refl _) _).alloc (by simp) _) _).setCell (p := ⟨w.heap.size, 0, none⟩) (Nat.le_refl _) _)).setCell (p := ⟨w.heap.size, 1, none⟩) (Nat.le_refl _) _)⟩
        · by_cases h6 : (bs.length : Int) < (L : Int) + 8
          · have he := Lib.hid (get_err (bs := bs) (E := 3) (by rw [hE.out, if_neg (by omega), if_pos (by omega)]) (by omega))
            clear hz hb
            go_enter Try.func37, Try.ntmps37
            go_wp2
            go_quiet (fail)
            go_wp2
            refine bodyPost_ret (v := .tuple #[.agg #[.int .i64 0, .slice none 0 0], .int .i64 0, .int .i64 3]) (by simp [results, Try.results37, go_sem]) rfl ?_
            rw [he.out.1, he.out.2.1, he.out.2.2]
            exact ⟨none, 0, rfl, RowAt.nil, fun _ => rfl, ⟨Nat.le_refl _, fun h => (h rfl).elim⟩, ((((below_drewN (((Below.refl _ _).alloc (Nat.le_refl _) _).alloc (by simp) _) _).setCell (p := ⟨w.heap.size, 0, none⟩) (Nat.le_refl _) _)).setCell (p := ⟨w.heap.size, 1, none⟩) (Nat.le_refl _) _)⟩
          · have hs0 : sizeE bs = 0 := by rw [hE.out, if_neg (by omega), if_neg (by omega)]
            have hn := hN.out hs0
            have htl : Hid ((bs.take (sizeN bs)).length = sizeN bs) := by rw [Hid, List.length_take, hn]; omega
            have ho : Hid (∀ W, CellsB W (some ⟨b, off, none⟩) bs → Calls Try.prog 52 #[.slice (some ⟨b, off, none⟩) (sizeN bs) cap] W (RetRowOk 5 1 (opened (bs.take (sizeN bs))).length ((opened (bs.take (sizeN bs))).map byteV) (opens (bs.take (sizeN bs))) W)) := fun W h => by
              have := refOpen_any (some ⟨b, off, none⟩) cap (bs.take (sizeN bs)) W (h.take _) (by simp) (by rw [htl.out, hn]; omega) (by rw [htl.out, hn]; omega)
              rwa [htl.out] at this
            have hnc : L + 8 ≤ cap := by omega
            have hncI : (L : Int) + 8 ≤ (cap : Int) := by omega
            have hsl : Hid (∀ W, (Instr.slice 46 (.slice (some ⟨b, off, none⟩) bs.length cap) none (some (.int .i64 ((L : Int) + 8))) none).run Try.prog W = .ok (.slice (some ⟨b, off, none⟩) (L + 8) cap) W) := fun W => by
              have := slice_to (some ⟨b, off, none⟩) bs.length cap (L + 8) hnc W
              simpa using this
            by_cases hop : opens (bs.take (sizeN bs)) = true
            · have he := Lib.hid (get_good hs0 hop)
              have hxl : Hid ((opened (bs.take (sizeN bs))).length = L + 4) := by unfold opened; rw [Hid, if_pos hop, List.length_take, htl.out, hn]; omega
              rw [hop, hxl.out] at ho
              rw [hn] at he ho hxl
              generalize opened (bs.take (L + 8)) = X at he hxl ho
              have hB := (bs.getD 1 0).toNat_lt
              generalize (bs.getD 1 0).toNat = B1 at he hB HC1
              have hw : IntKind.i64.wrap (B1 : Int) = (B1 : Int) := by rw [IntKind.wrap_i64]; omega
              have hwL : IntKind.i64.wrap ((L : Int) + 8) = (L : Int) + 8 := by rw [IntKind.wrap_i64]; omega
              have HW := Lib.hid hw
              have HWL := Lib.hid hwL
              clear hz hw hwL hop htl
              go_enter Try.func37, Try.ntmps37
              go_wp2
              go_quiet (fail)
              have hs1 := hsl.out
              go_wp2_with (go_at_call 52; refine (ho.out _ (by exact (hb.alloc _).alloc _)).mono ?_; rintro e w1 ⟨a1, cap1, rfl, hown1, hd1⟩; obtain ⟨hc00, hc01, hc10, hc11, hf0, hf1, hlt, hb1⟩ := two_blocks (bt (below_drewN (Below.refl _ _) _) hd1))
              obtain ⟨g, cg, hv, hgb, hgl⟩ := hown1.form (by omega)
              cases hv
              have hcx := HC1.out
              rw [← hb1.cell (p := ⟨b, off + 1, none⟩) hbl] at hcx
              have hgw : w.heap.size < g := by simp at hgb; omega
              have hLi : (4 : Int) ≤ (L : Int) + 4 := by omega
              have hLn : (4 : Int) ≤ ((L + 4 : Nat) : Int) := by omega
              have hbw : b ≠ w.heap.size := by omega
              have hfar : ∀ u v, ((w1.setCell ⟨w.heap.size, 0, none⟩ u).setCell ⟨w.heap.size, 1, none⟩ v).cell? ⟨b, off + 1, none⟩ = w1.cell? ⟨b, off + 1, none⟩ := fun u v => World.cell?_of_block ((Below.heap_setCell _ ⟨w.heap.size, 1, none⟩ v b hbw).trans (Below.heap_setCell _ ⟨w.heap.size, 0, none⟩ u b hbw))
              have hw := HW.out
              have hwL := HWL.out
              go_region_held3 (fun W => W.cell? ⟨b, off + 1, none⟩ = some (.int .u8 (B1 : Int))) (first | exact hcx | exact (hfar _ _).trans hcx) (fail)
              clear hw hwL
              generalize hA : (if cap1 = 4 then some (⟨g, 0, none⟩ : Addr) else some ⟨g, 4, none⟩) = A4
              have HA : Hid (cutA (some ⟨g, 0, none⟩) cap1 4 = A4) := by rw [Hid, ← hA]; rfl
              clear hA
              go_wp2
              refine bodyPost_ret (v := .tuple #[.agg #[.int .i64 (B1 : Int), .slice A4 L (cap1 - 4)], .int .i64 ((L : Int) + 8), .int .i64 0]) (by simp [results, Try.results37, go_sem, hc00, hc01]) rfl ?_
              have hown2 := ownsRow_setCell_below (ownsRow_setCell_below hown1 (a := ⟨w.heap.size, 0, none⟩) (by simp; omega) (.int .i64 (B1 : Int))) (a := ⟨w.heap.size, 1, none⟩) (by simp; omega) (.slice A4 L (cap1 - 4))
              have hcut := CellsB.cut (bs := X) (RowAt.of_own hown2) cap1 4 (by rw [hxl.out]; exact own_le hown2)
              have hdl : (X.drop 4).length = L := by have h1 := hxl.out; have h2 : (X.drop 4).length = X.length - 4 := List.length_drop; omega
              have hnn := cutA_none (l := 4) (cap := cap1) (own_none hown2)
              rw [HA.out] at hcut hnn
              have hle := own_le hown2
              rw [he.out.1, he.out.2.1, he.out.2.2]
              refine ⟨A4, cap1 - 4, ?_, hcut, ?_, ?_, ((hb1.setCell (p := ⟨w.heap.size, 0, none⟩) (Nat.le_refl _) _).setCell (p := ⟨w.heap.size, 1, none⟩) (Nat.le_refl _) _).drew⟩
              · rw [hdl]; rfl
              · intro h; have := hnn h; rw [hdl]; omega
              · refine ⟨by rw [hdl]; omega, fun _ b off ha => ?_⟩
                have hcu := HA.out
                rw [ha] at hcu
                have hbg : b = g := by
                  unfold cutA at hcu
                  split at hcu
                  · cases hcu; rfl
                  · cases hcu; rfl
                rw [hbg]; omega
            · have hop : opens (bs.take (sizeN bs)) = false := by simpa using hop
              have he := Lib.hid (get_bad hs0 hop)
              have hx : Hid (opened (bs.take (sizeN bs)) = []) := by unfold opened; rw [Hid, if_neg (by rw [hop]; decide)]
              rw [hop, hx.out, hn] at ho
              clear hz hop hx htl
              go_enter Try.func37, Try.ntmps37
              go_wp2
              go_quiet (fail)
              have hs1 := hsl.out
              go_wp2_with (go_at_call 52; refine (ho.out _ (by exact (hb.alloc _).alloc _)).mono ?_; rintro e w1 ⟨a1, cap1, rfl, hown1, hd1⟩; obtain ⟨hc00, hc01, hc10, hc11, hf0, hf1, hlt, hb1⟩ := two_blocks (bt (below_drewN (Below.refl _ _) _) hd1))
              go_wp2
              refine bodyPost_ret (v := .tuple #[.agg #[.int .i64 0, .slice none 0 0], .int .i64 0, .int .i64 4]) (by simp [results, Try.results37, go_sem, hc00, hc01]) rfl ?_
              rw [he.out.1, he.out.2.1, he.out.2.2]
              exact ⟨none, 0, rfl, RowAt.nil, fun _ => rfl, ⟨Nat.le_refl _, fun h => (h rfl).elim⟩, (hb1.setCell (p := ⟨w.heap.size, 0, none⟩) (Nat.le_refl _) _).setCell (p := ⟨w.heap.size, 1, none⟩) (Nat.le_refl _) _⟩
    · have he := Lib.hid (get_err (bs := bs) (E := 2) (by unfold sizeE; rw [if_neg h0, if_pos h1]) (by omega))
      have ht1 : (((bs.getD 0 0).toNat : Int) != 83) = true := by
        simp only [bne_iff_ne, ne_eq]; omega
      clear hb h1 hz
      generalize (bs.getD 0 0).toNat = B0 at hc0' ht1
      go_enter Try.func37, Try.ntmps37
      go_wp2
      refine bodyPost_ret (v := .tuple #[.agg #[.int .i64 0, .slice none 0 0], .int .i64 0, .int .i64 2]) (by simp [results, Try.results37, go_sem]) rfl ?_
      rw [he.out.1, he.out.2.1, he.out.2.2]
      exact ⟨none, 0, rfl, RowAt.nil, fun _ => rfl, ⟨Nat.le_refl _, fun h => (h rfl).elim⟩, ((Below.refl _ _).alloc (Nat.le_refl _) _).alloc (by simp) _⟩
end Go.Proofs.Ytnbljcbfnplbaaa
