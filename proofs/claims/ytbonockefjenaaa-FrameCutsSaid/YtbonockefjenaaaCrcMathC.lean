/-
  The plain mathematics of the sum, third part: bit by bit; bursts.
-/
import Derived.Test.YtbonockefjenaaaCrcMathB
namespace Go.Proofs.Ytbonockefjenaaa
open Go.RowKit

/-! ### Bit by bit -/
def bit1 (b : Bool) : BitVec 32 := if b then 1#32 else 0#32
/-- The register behind n bits. -/
def bser (r : BitVec 32) (f : Nat → Bool) : Nat → BitVec 32
  | 0 => r
  | n + 1 => step (bser r f n ^^^ bit1 (f n))
/-- The first n bits as a word. -/
def word (f : Nat → Bool) : Nat → BitVec 32
  | 0 => 0#32
  | n + 1 => word f n ^^^ ((bit1 (f n)) <<< n)
theorem bit1_shl (b : Bool) (n : Nat) (hn : n < 32) : ((bit1 b) <<< n) >>> n = bit1 b := by
  cases b
  · simp [bit1]
  · have : n = n % 32 := by omega
    have h : ∀ n : Fin 32, ((1#32) <<< n.val) >>> n.val = 1#32 := by decide
    exact h ⟨n, hn⟩
theorem bser_word (r : BitVec 32) (f : Nat → Bool) (n : Nat) (hn : n ≤ 32) : bser r f n = steps n (r ^^^ word f n) := by
  induction n with
  | zero => rw [word, BitVec.xor_zero]; rfl
  | succ n ih =>
    rw [bser, ih (by omega), word, steps, ← BitVec.xor_assoc, steps_shl n _ _ (bit1_shl _ _ (by omega))]
theorem bser_add (r : BitVec 32) (f : Nat → Bool) (m n : Nat) : bser r f (m + n) = bser (bser r f m) (fun i => f (m + i)) n := by
  induction n with
  | zero => rfl
  | succ n ih => rw [← Nat.add_assoc, bser, ih]; rfl
theorem bser_congr {r : BitVec 32} {f g : Nat → Bool} {n : Nat} (h : ∀ i, i < n → f i = g i) : bser r f n = bser r g n := by
  induction n with
  | zero => rfl
  | succ n ih => rw [bser, bser, ih (fun i hi => h i (by omega)), h n (by omega)]
theorem bser_none {r : BitVec 32} {f : Nat → Bool} {n : Nat} (h : ∀ i, i < n → f i = false) : bser r f n = steps n r := by
  induction n with
  | zero => rfl
  | succ n ih => rw [bser, ih (fun i hi => h i (by omega)), h n (by omega), steps, bit1]; simp
theorem word_bit (f : Nat → Bool) (n i : Nat) (hn : n ≤ 32) : (word f n).getLsbD i = (decide (i < n) && f i) := by
  induction n with
  | zero => simp [word]
  | succ n ih =>
    rw [word, BitVec.getLsbD_xor, ih (by omega), BitVec.getLsbD_shiftLeft]
    by_cases h1 : i < n
    · have h2 : i < n + 1 := by omega
      simp [h1, h2]
    · by_cases h2 : i = n
      · subst h2
        have h3 : i < 32 := by omega
        cases hf : f i <;> simp [bit1, h3]
      · have h3 : ¬ i < n + 1 := by omega
        have h4 : i - n ≠ 0 := by omega
        have h5 : (bit1 (f n)).getLsbD (i - n) = false := by
          cases f n
          · simp [bit1]
          · simp only [bit1, if_true]
            rw [BitVec.getLsbD_one]; simp [h4]
        simp [h1, h3, h5]
/-- Bit p of bytes. -/
def bitAt (bs : List UInt8) (p : Nat) : Bool := (bs.getD (p / 8) 0).toNat.testBit (p % 8)
theorem word8 (b : UInt8) (f : Nat → Bool) (h : ∀ i, i < 8 → f i = b.toNat.testBit i) : word f 8 = BitVec.ofNat 32 b.toNat := by
  apply BitVec.eq_of_getLsbD_eq
  intro i hi
  rw [word_bit f 8 i (by omega), BitVec.getLsbD_ofNat]
  by_cases h8 : i < 8
  · rw [h i h8]; simp [h8, hi]
  · have h1 : b.toNat.testBit i = false := Nat.testBit_lt_two_pow (Nat.lt_of_lt_of_le b.toNat_lt (by
      have : 2 ^ 8 ≤ 2 ^ i := Nat.pow_le_pow_right (by omega) (by omega)
      simpa using this))
    rw [h1]; simp [h8]
theorem reg_bser (r : BitVec 32) (bs : List UInt8) : reg r bs = bser r (bitAt bs) (8 * bs.length) := by
  induction bs generalizing r with
  | nil => rfl
  | cons b bs ih =>
    have e : 8 * (b :: bs).length = 8 + 8 * bs.length := by rw [List.length_cons]; omega
    rw [e, bser_add, bser_word _ _ 8 (by omega), word8 b]
    · show reg (bstep r b) bs = _
      rw [ih]
      apply bser_congr
      intro i _
      have h1 : (8 + i) / 8 = i / 8 + 1 := by omega
      have h2 : (8 + i) % 8 = i % 8 := by omega
      simp [bitAt, h1, h2]
    · intro i hi
      have h1 : i / 8 = 0 := by omega
      have h2 : i % 8 = i := by omega
      simp [bitAt, h1, h2]
def xor2 (a b : List UInt8) : List UInt8 := List.zipWith (fun x y => x ^^^ y) a b
theorem reg_xor2 (r s : BitVec 32) (a b : List UInt8) (h : a.length = b.length) : reg (r ^^^ s) (xor2 a b) = reg r a ^^^ reg s b := by
  induction a generalizing r s b with
  | nil => cases b with
    | nil => rfl
    | cons _ _ => cases h
  | cons x a ih => cases b with
    | nil => cases h
    | cons y b =>
      show reg (bstep (r ^^^ s) (x ^^^ y)) (xor2 a b) = reg (bstep r x) a ^^^ reg (bstep s y) b
      rw [bstep_xor]
      exact ih _ _ b (by simpa using h)
theorem bitAt_xor2 (a b : List UInt8) (h : a.length = b.length) (p : Nat) : bitAt (xor2 a b) p = (bitAt a p ^^ bitAt b p) := by
  unfold bitAt xor2
  rw [List.getD_eq_getElem?_getD, List.getD_eq_getElem?_getD, List.getD_eq_getElem?_getD, List.getElem?_zipWith]
  by_cases hp : p / 8 < a.length
  · rw [List.getElem?_eq_getElem hp, List.getElem?_eq_getElem (by omega)]
    simp [UInt8.toNat_xor, Nat.testBit_xor]
  · rw [List.getElem?_eq_none (by omega), List.getElem?_eq_none (by omega)]
    simp
/-- A burst: bits within 32 in a row, the first of them turned: the register is another one. -/
theorem burst_reg (r : BitVec 32) (s t : List UInt8) (hl : t.length = s.length) (at0 : Nat) (mask : BitVec 32) (hm : mask.getLsbD 0 = true) (ha : at0 < 8 * s.length)
    (hbits : ∀ p, p < 8 * s.length → bitAt t p = (bitAt s p ^^ (decide (at0 ≤ p) && mask.getLsbD (p - at0)))) : reg r t ≠ reg r s := by
  intro he
  have h0 : reg 0#32 (xor2 t s) = 0#32 := by
    have := reg_xor2 r r t s hl
    rw [BitVec.xor_self] at this
    rw [this, he, BitVec.xor_self]
  have hx : (xor2 t s).length = s.length := by unfold xor2; rw [List.length_zipWith, hl, Nat.min_self]
  rw [reg_bser, hx] at h0
  have hf : ∀ p, p < 8 * s.length → bitAt (xor2 t s) p = (decide (at0 ≤ p) && mask.getLsbD (p - at0)) := fun p hp => by
    rw [bitAt_xor2 t s hl, hbits p hp]
    cases bitAt s p <;> simp
  rw [bser_congr hf] at h0
  obtain ⟨n, hn⟩ : ∃ n, 8 * s.length = at0 + (n + 1) := ⟨8 * s.length - at0 - 1, by omega⟩
  rw [hn, bser_add, bser_none (n := at0) (fun i hi => by simp; omega), steps_zero] at h0
  have hg : ∀ i, (fun i => decide (at0 ≤ at0 + i) && mask.getLsbD (at0 + i - at0)) i = mask.getLsbD i := fun i => by simp
  rw [bser_congr (fun i _ => hg i)] at h0
  have key : ∀ k, k < 32 → bser 0#32 (fun i => mask.getLsbD i) (k + 1) ≠ 0#32 := fun k hk h => by
    rw [bser_word _ _ _ (by omega), BitVec.zero_xor] at h
    have h2 := word_bit (fun i => mask.getLsbD i) (k + 1) 0 (by omega)
    rw [hm, steps_eq_zero h] at h2
    simp at h2
  by_cases h32 : n + 1 ≤ 32
  · exact key n (by omega) h0
  · obtain ⟨m, hm2⟩ : ∃ m, n + 1 = 32 + m := ⟨n + 1 - 32, by omega⟩
    rw [hm2, bser_add, bser_none (n := m) (fun i _ => BitVec.getLsbD_of_ge _ _ (by omega))] at h0
    exact key 31 (by omega) (steps_eq_zero h0)
theorem not_opens {s t : List UInt8} (hs : ∃ bs, s = sealed bs) (h : reg (~~~ 0#32) t ≠ reg (~~~ 0#32) s) : opens t = false := by
  obtain ⟨bs, rfl⟩ := hs
  by_cases ho : opens t = true
  · exfalso
    unfold opens at ho
    simp only [Bool.and_eq_true, decide_eq_true_eq] at ho
    have h1 := sum_sealed (t.take (t.length - 4))
    rw [ho.2] at h1
    have h2 := sum_sealed bs
    exact h (not_inj (h1.trans h2.symm))
  · simpa using ho
theorem map_set_byte (bs : List UInt8) (k : Nat) (x : UInt8) : (bs.map byteV).set k (.int .u8 (x.toNat : Int)) = (bs.set k x).map byteV := by
  rw [List.map_set]; rfl
theorem u8_xor_bytes (x y : UInt8) : bits .xor .u8 (x.toNat : Int) (y.toNat : Int) = ((x ^^^ y).toNat : Int) := by
  rw [u8_xor_nat _ _ x.toNat_lt y.toNat_lt, UInt8.toNat_xor]
/-- Bytes of which the first bits within 32 from one on are turned, as a mask has them. -/
def turnedAt (bs : List UInt8) (at0 : Nat) (mask : BitVec 32) : Nat → List UInt8
  | 0 => bs
  | i + 1 => let out := turnedAt bs at0 mask i
    if mask.getLsbD i && decide (at0 + i < 8 * out.length) then out.set ((at0 + i) / 8) (out.getD ((at0 + i) / 8) 0 ^^^ UInt8.ofNat (2 ^ ((at0 + i) % 8))) else out
theorem turnedAt_length (bs : List UInt8) (at0 : Nat) (mask : BitVec 32) (i : Nat) : (turnedAt bs at0 mask i).length = bs.length := by
  induction i with
  | zero => rfl
  | succ i ih =>
    unfold turnedAt
    dsimp only
    split
    · rw [List.length_set, ih]
    · exact ih
theorem flip_form (x : UInt8) (m : Nat) : bits .xor .u8 (x.toNat : Int) (2 ^ m % 256) = ((x ^^^ UInt8.ofNat (2 ^ m)).toNat : Int) := by
  have h : (2 ^ m % 256 : Int) = ((UInt8.ofNat (2 ^ m)).toNat : Int) := by
    rw [UInt8.toNat_ofNat', Int.natCast_emod, Int.natCast_pow]; rfl
  rw [h, u8_xor_bytes]
theorem turnedAt_yes {bs : List UInt8} {at0 : Nat} {mask : BitVec 32} {k : Nat} (h1 : mask.getLsbD k = true) (h2 : at0 + k < 8 * bs.length) :
    turnedAt bs at0 mask (k + 1) = (turnedAt bs at0 mask k).set ((at0 + k) / 8) ((turnedAt bs at0 mask k).getD ((at0 + k) / 8) 0 ^^^ UInt8.ofNat (2 ^ ((at0 + k) % 8))) := by
  conv => lhs; unfold turnedAt
  dsimp only
  rw [turnedAt_length, h1, decide_eq_true h2]; rfl
theorem turnedAt_no {bs : List UInt8} {at0 : Nat} {mask : BitVec 32} {k : Nat} (h : mask.getLsbD k = false ∨ ¬ at0 + k < 8 * bs.length) :
    turnedAt bs at0 mask (k + 1) = turnedAt bs at0 mask k := by
  conv => lhs; unfold turnedAt
  dsimp only
  rw [turnedAt_length]
  rcases h with h | h
  · rw [h]; rfl
  · rw [decide_eq_false h, Bool.and_false]; rfl
theorem turnedAt_row {bs : List UInt8} {at0 : Nat} {mask : BitVec 32} {k : Nat} (h1 : mask.getLsbD k = true) (h2 : at0 + k < 8 * bs.length) :
    ((turnedAt bs at0 mask k).map byteV).set ((at0 + k) / 8) (.int .u8 (bits .xor .u8 (((turnedAt bs at0 mask k).getD ((at0 + k) / 8) 0).toNat : Int) (2 ^ ((at0 + k) % 8) % 256))) = (turnedAt bs at0 mask (k + 1)).map byteV := by
  rw [flip_form, turnedAt_yes h1 h2, map_set_byte]
theorem mask_test (mask : BitVec 32) (i : Nat) : ((U mask / 2 ^ i).tmod 2 == 1) = mask.getLsbD i := by
  rw [Int.tmod_eq_emod_of_nonneg (Int.ediv_nonneg (U0 mask) (Int.pow_nonneg (by omega)))]
  rw [BitVec.getLsbD, Nat.testBit_eq_decide_div_mod_eq]
  unfold U
  have : ((mask.toNat : Int) / 2 ^ i % 2) = ((mask.toNat / 2 ^ i % 2 : Nat) : Int) := by rw [Int.natCast_emod, Int.natCast_ediv, Int.natCast_pow]; rfl
  rw [this]
  by_cases h : mask.toNat / 2 ^ i % 2 = 1
  · simp [h]
  · have : mask.toNat / 2 ^ i % 2 = 0 := by omega
    simp [this]
theorem bitAt_set (bs : List UInt8) (j m p : Nat) (hj : j < bs.length) (hm : m < 8) : bitAt (bs.set j (bs.getD j 0 ^^^ UInt8.ofNat (2 ^ m))) p = (bitAt bs p ^^ decide (p = 8 * j + m)) := by
  unfold bitAt
  by_cases h : p / 8 = j
  · subst h
    rw [List.getD_eq_getElem?_getD, List.getElem?_set_self hj, Option.getD_some, UInt8.toNat_xor, Nat.testBit_xor]
    congr 1
    have h1 : (UInt8.ofNat (2 ^ m)).toNat = 2 ^ m := UInt8.toNat_ofNat_of_lt' (by
      have : 2 ^ m < 2 ^ 8 := Nat.pow_lt_pow_right (by omega) hm
      simpa using this)
    rw [h1, Nat.testBit_two_pow]
    rw [Bool.eq_iff_iff]; simp; omega
  · rw [List.getD_eq_getElem?_getD, List.getElem?_set_ne (by omega), ← List.getD_eq_getElem?_getD]
    have : ¬ p = 8 * j + m := by omega
    simp [this]
theorem bitAt_turned (bs : List UInt8) (at0 : Nat) (mask : BitVec 32) (k p : Nat) (hp : p < 8 * bs.length) : bitAt (turnedAt bs at0 mask k) p = (bitAt bs p ^^ (decide (at0 ≤ p ∧ p < at0 + k) && mask.getLsbD (p - at0))) := by
  induction k with
  | zero =>
    have : ¬ (at0 ≤ p ∧ p < at0 + 0) := by omega
    rw [turnedAt, decide_eq_false this, Bool.false_and, Bool.xor_false]
  | succ k ih =>
    by_cases h1 : mask.getLsbD k = true
    · by_cases h2 : at0 + k < 8 * bs.length
      · rw [turnedAt_yes h1 h2, bitAt_set _ _ _ _ (by rw [turnedAt_length]; omega) (by omega), ih]
        by_cases h3 : p = at0 + k
        · subst h3
          have e1 : at0 + k = 8 * ((at0 + k) / 8) + (at0 + k) % 8 := by omega
          have e2 : at0 + k - at0 = k := by omega
          rw [decide_eq_true e1, e2, h1]
          simp
        · have e1 : ¬ p = 8 * ((at0 + k) / 8) + (at0 + k) % 8 := by omega
          have e2 : (at0 ≤ p ∧ p < at0 + k) ↔ (at0 ≤ p ∧ p < at0 + (k + 1)) := by omega
          rw [decide_eq_false e1, Bool.xor_false]
          simp only [e2]
      · rw [turnedAt_no (.inr h2), ih]
        have e2 : (at0 ≤ p ∧ p < at0 + k) ↔ (at0 ≤ p ∧ p < at0 + (k + 1)) := by omega
        simp only [e2]
    · have h1 : mask.getLsbD k = false := by simpa using h1
      rw [turnedAt_no (.inl h1), ih]
      by_cases h3 : p = at0 + k
      · subst h3
        have e2 : at0 + k - at0 = k := by omega
        rw [e2, h1]
        simp
      · have e2 : (at0 ≤ p ∧ p < at0 + k) ↔ (at0 ≤ p ∧ p < at0 + (k + 1)) := by omega
        simp only [e2]
theorem burst_opens (bs : List UInt8) (at0 : Nat) (mask : BitVec 32) (hm : mask.getLsbD 0 = true) (ha : at0 < 8 * (sealed bs).length) : opens (turnedAt (sealed bs) at0 mask 32) = false := by
  refine not_opens ⟨bs, rfl⟩ (burst_reg _ _ _ (turnedAt_length _ _ _ _) at0 mask hm ha fun p hp => ?_)
  rw [bitAt_turned _ _ _ _ _ hp]
  congr 1
  by_cases h : p < at0 + 32
  · simp [h]
  · have : mask.getLsbD (p - at0) = false := BitVec.getLsbD_of_ge _ _ (by omega)
    simp [this]
end Go.Proofs.Ytbonockefjenaaa
