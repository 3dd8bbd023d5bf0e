/-
  The plain mathematics of the sum (layer 1): words of 32 bits, one step of the division, half bytes, bytes. No program is named here.
-/
import Derived.WalkKit
import Derived.Lib.Hide
namespace Go.Proofs.Ytbonockefjenaaa
open Go.RowKit

/-- A word as the model's integer. -/
def U (x : BitVec 32) : Int := (x.toNat : Int)
theorem U0 (x : BitVec 32) : 0 ≤ U x := by unfold U; omega
theorem U1 (x : BitVec 32) : U x < 4294967296 := by unfold U; have := x.isLt; omega
theorem U_inj {x y : BitVec 32} (h : U x = U y) : x = y := by
  apply BitVec.eq_of_toNat_eq
  unfold U at h
  omega
theorem U_eq_iff {x y : BitVec 32} : U x = U y ↔ x = y := ⟨U_inj, fun h => by rw [h]⟩
theorem U_ofNat (n : Nat) (h : n < 4294967296) : U (BitVec.ofNat 32 n) = n := by
  unfold U; rw [BitVec.toNat_ofNat, Nat.mod_eq_of_lt (by omega)]
theorem exists_U (a : Int) (h : (Lit.int .u32 a).wf = true) : ∃ x, a = U x := by
  have h' : 0 ≤ a ∧ a < 4294967296 := by
    simp [Lit.wf, IntKind.min, IntKind.max, IntKind.signed, IntKind.bits] at h
    omega
  exact ⟨BitVec.ofNat 32 a.toNat, by rw [U_ofNat _ (by omega)]; omega⟩
theorem U_wf (x : BitVec 32) : (Lit.int .u32 (U x)).wf = true := by
  have := U0 x; have := U1 x
  simp [Lit.wf, IntKind.min, IntKind.max, IntKind.signed, IntKind.bits]
  omega

/-- The polynomial, reversed. -/
def poly : BitVec 32 := 0xedb88320#32
/-- One step of the division. -/
def step (x : BitVec 32) : BitVec 32 := if x.getLsbD 0 then (x >>> 1) ^^^ poly else x >>> 1
def steps : Nat → BitVec 32 → BitVec 32
  | 0, x => x
  | n + 1, x => step (steps n x)
/-- The sums of half bytes. -/
def nib (n : Nat) : BitVec 32 := steps 4 (BitVec.ofNat 32 n)
/-- One byte more in the register. -/
def bstep (x : BitVec 32) (b : UInt8) : BitVec 32 := steps 8 (x ^^^ BitVec.ofNat 32 b.toNat)
def reg (x : BitVec 32) (bs : List UInt8) : BitVec 32 := bs.foldl bstep x
def more (s : BitVec 32) (bs : List UInt8) : BitVec 32 := ~~~ (reg (~~~ s) bs)
def sum (bs : List UInt8) : BitVec 32 := more 0#32 bs

theorem bits_xor_U (x y : BitVec 32) : bits .xor .u32 (U x) (U y) = U (x ^^^ y) := by
  unfold U; rw [u32_xor_nat _ _ x.isLt y.isLt, BitVec.toNat_xor]
theorem bits_and_U (x y : BitVec 32) : bits .and .u32 (U x) (U y) = U (x &&& y) := by
  unfold U; rw [u32_and_nat _ _ x.isLt y.isLt, BitVec.toNat_and]
theorem U_div2 (x : BitVec 32) : U x / (2 : Int) = U (x >>> 1) := by
  unfold U; rw [BitVec.toNat_ushiftRight, Nat.shiftRight_eq_div_pow]; omega
theorem U_div16 (x : BitVec 32) : U x / (16 : Int) = U (x >>> 4) := by
  unfold U; rw [BitVec.toNat_ushiftRight, Nat.shiftRight_eq_div_pow]; omega
theorem lsb_toNat (x : BitVec 32) : x.getLsbD 0 = decide (x.toNat % 2 = 1) := by
  rw [BitVec.getLsbD, Nat.testBit_zero]
theorem U_and1 (x : BitVec 32) : bits .and .u32 (U x) 1 = if x.getLsbD 0 then 1 else 0 := by
  have h : (1 : Int) = U 1#32 := rfl
  rw [h, bits_and_U, lsb_toNat]
  unfold U
  rw [BitVec.toNat_and, show (1#32).toNat = 1 from rfl, Nat.and_one_is_mod]
  by_cases h2 : x.toNat % 2 = 1
  · simp [h2]
  · have : x.toNat % 2 = 0 := by omega
    simp [this]
theorem step_form (x : BitVec 32) : bits .xor .u32 (U x / 2) (bits .and .u32 (-bits .and .u32 (U x) 1 % 4294967296) 3988292384) = U (step x) := by
  rw [U_and1, U_div2]
  have hp : (3988292384 : Int) = U poly := rfl
  rw [hp]
  unfold step
  by_cases h : x.getLsbD 0
  · have h1 : (-1 : Int) % 4294967296 = U (BitVec.allOnes 32) := by decide
    simp only [h, if_true]
    rw [h1, bits_and_U, bits_xor_U, BitVec.allOnes_and]
  · have h1 : (-0 : Int) % 4294967296 = U 0#32 := by decide
    simp only [h]
    simp only [Bool.false_eq_true, if_false]
    rw [h1, bits_and_U, bits_xor_U, BitVec.zero_and, BitVec.xor_zero]
theorem U_tdiv (x : BitVec 32) (d : Nat) (hd : 0 < d) : (U x).tdiv (d : Int) % 4294967296 = U x / (d : Int) := by
  have h0 := U0 x
  have h1 := U1 x
  rw [Int.tdiv_eq_ediv_of_nonneg h0]
  have h2 : 0 ≤ U x / (d : Int) := Int.ediv_nonneg h0 (by omega)
  have h3 : U x / (d : Int) ≤ U x := Int.ediv_le_self _ h0
  exact Int.emod_eq_of_lt h2 (by omega)
/-- The document's own step. -/
theorem step_ref_odd (x : BitVec 32) (h : U x % 2 = 1) : bits .xor .u32 ((U x).tdiv 2 % 4294967296) 3988292384 = U (step x) := by
  rw [show (2 : Int) = ((2 : Nat) : Int) from rfl, U_tdiv x 2 (by omega)]
  have hp : (3988292384 : Int) = U poly := rfl
  rw [hp, show ((2 : Nat) : Int) = (2 : Int) from rfl, U_div2, bits_xor_U]
  unfold step
  rw [lsb_toNat, if_pos]
  unfold U at h
  simp; omega
theorem step_ref_even (x : BitVec 32) (h : U x % 2 = 0) : (U x).tdiv 2 % 4294967296 = U (step x) := by
  rw [show (2 : Int) = ((2 : Nat) : Int) from rfl, U_tdiv x 2 (by omega), show ((2 : Nat) : Int) = (2 : Int) from rfl]
  rw [U_div2]
  unfold step
  rw [lsb_toNat, if_neg]
  unfold U at h
  simp; omega

/-- The array of the sums of half bytes, of which the first k are reckoned. -/
def tabV (k : Nat) : Array Value := ((List.range 16).map fun j => Value.int .u32 (if j < k then U (nib j) else 0)).toArray
def nibV : Array Value := tabV 16
theorem tabV_zero : #[Value.int IntKind.u32 0, Value.int IntKind.u32 0, Value.int IntKind.u32 0, Value.int IntKind.u32 0, Value.int IntKind.u32 0, Value.int IntKind.u32 0, Value.int IntKind.u32 0, Value.int IntKind.u32 0, Value.int IntKind.u32 0, Value.int IntKind.u32 0, Value.int IntKind.u32 0, Value.int IntKind.u32 0, Value.int IntKind.u32 0, Value.int IntKind.u32 0, Value.int IntKind.u32 0, Value.int IntKind.u32 0] = tabV 0 := rfl
theorem tabV_size (k : Nat) : (tabV k).size = 16 := by simp [tabV]
theorem tabV_at (k : Nat) (h : k < 16) : (tabV k)[k]? = some (.int .u32 0) := by simp [tabV, h]
theorem tabV_get (k j : Nat) (h : j < 16) : (tabV k)[j]? = some (.int .u32 (if j < k then U (nib j) else 0)) := by simp [tabV, h]
theorem tabV_set (k : Nat) (h : k < 16) : (tabV k).setIfInBounds k (.int .u32 (U (nib k))) = tabV (k + 1) := by
  apply Array.ext_getElem?
  intro i
  rw [Array.getElem?_setIfInBounds, tabV_size]
  by_cases hi : i < 16
  · rw [tabV_get _ _ hi, tabV_get _ _ hi]
    by_cases e : k = i
    · subst e; simp [h]
    · simp only [e, if_false]
      congr 3
      by_cases h1 : i < k
      · simp [h1]; omega
      · have : ¬ i < k + 1 := by omega
        simp [h1, this]
  · have h1 : (tabV k)[i]? = none := by rw [Array.getElem?_eq_none]; rw [tabV_size]; omega
    have h2 : (tabV (k + 1))[i]? = none := by rw [Array.getElem?_eq_none]; rw [tabV_size]; omega
    rw [h1, h2]
    have : k ≠ i := by omega
    simp [this]
theorem nibV_size : nibV.size = 16 := tabV_size 16
theorem nibV_get (j : Nat) (h : j < 16) : nibV[j]? = some (.int .u32 (U (nib j))) := by
  rw [nibV, tabV_get _ _ h, if_pos h]
theorem nibV_one : nibV.all (·.oneCell') = true := by kernel_rfl
def nibL : Array Value := #[.int .u32 0, .int .u32 498536548, .int .u32 997073096, .int .u32 651767980, .int .u32 1994146192, .int .u32 1802195444, .int .u32 1303535960, .int .u32 1342533948, .int .u32 3988292384, .int .u32 4027552580, .int .u32 3604390888, .int .u32 3412177804, .int .u32 2607071920, .int .u32 2262029012, .int .u32 2685067896, .int .u32 3183342108]
theorem nibV_lit : nibV = nibL := by kernel_rfl
/-! ### The steps are linear and lose nothing -/
theorem step_xor (x y : BitVec 32) : step (x ^^^ y) = step x ^^^ step y := by
  unfold step
  rw [BitVec.getLsbD_xor, BitVec.ushiftRight_xor_distrib]
  cases x.getLsbD 0 <;> cases y.getLsbD 0 <;> simp only [Bool.xor_false, Bool.xor_true, Bool.not_true, Bool.not_false, if_true, if_false, Bool.false_eq_true]
  · rw [BitVec.xor_assoc]
  · rw [BitVec.xor_assoc, BitVec.xor_assoc, BitVec.xor_comm poly]
  · have h : ∀ a b p : BitVec 32, a ^^^ b = a ^^^ p ^^^ (b ^^^ p) := fun a b p => by
      rw [BitVec.xor_assoc, ← BitVec.xor_assoc p, BitVec.xor_comm p b, BitVec.xor_assoc b, BitVec.xor_self, BitVec.xor_zero]
    exact h _ _ _
theorem step_zero : step 0#32 = 0#32 := by decide
theorem steps_xor (n : Nat) (x y : BitVec 32) : steps n (x ^^^ y) = steps n x ^^^ steps n y := by
  induction n with
  | zero => rfl
  | succ n ih => rw [steps, ih, step_xor]; rfl
theorem steps_zero (n : Nat) : steps n 0#32 = 0#32 := by
  induction n with
  | zero => rfl
  | succ n ih => rw [steps, ih, step_zero]
theorem steps_add (m n : Nat) (x : BitVec 32) : steps (m + n) x = steps m (steps n x) := by
  induction m with
  | zero => rw [Nat.zero_add]; rfl
  | succ m ih => rw [Nat.succ_add, steps, ih]; rfl
theorem xor_cancel (a b : BitVec 32) : a ^^^ b ^^^ b = a := by rw [BitVec.xor_assoc, BitVec.xor_self, BitVec.xor_zero]
theorem eq_of_xor {a b : BitVec 32} (h : a ^^^ b = 0#32) : a = b := by
  have := xor_cancel a b
  rw [h, BitVec.zero_xor] at this
  exact this.symm
theorem step_top (x : BitVec 32) : (step x).getLsbD 31 = x.getLsbD 0 := by
  unfold step
  by_cases h : x.getLsbD 0
  · rw [if_pos h, BitVec.getLsbD_xor, BitVec.getLsbD_ushiftRight, h]
    have : x.getLsbD (1 + 31) = false := BitVec.getLsbD_of_ge _ _ (by omega)
    rw [this]; decide
  · rw [if_neg h, BitVec.getLsbD_ushiftRight]
    have : x.getLsbD (1 + 31) = false := BitVec.getLsbD_of_ge _ _ (by omega)
    rw [this]; simpa using h
theorem step_eq_zero {x : BitVec 32} (h : step x = 0#32) : x = 0#32 := by
  have h0 : x.getLsbD 0 = false := by rw [← step_top, h]; decide
  unfold step at h
  rw [if_neg (by rw [h0]; decide)] at h
  apply BitVec.eq_of_getLsbD_eq
  intro i hi
  rw [BitVec.getLsbD_zero]
  cases i with
  | zero => exact h0
  | succ i =>
    have := congrArg (fun z => BitVec.getLsbD z i) h
    simp only [BitVec.getLsbD_ushiftRight, BitVec.getLsbD_zero] at this
    rwa [Nat.add_comm] at this
theorem steps_eq_zero {n : Nat} {x : BitVec 32} (h : steps n x = 0#32) : x = 0#32 := by
  induction n with
  | zero => exact h
  | succ n ih => exact ih (step_eq_zero h)
theorem steps_inj {n : Nat} {x y : BitVec 32} (h : steps n x = steps n y) : x = y := by
  apply eq_of_xor
  apply steps_eq_zero (n := n)
  rw [steps_xor, h, BitVec.xor_self]
/-! ### Half a byte at a time -/
theorem steps_shift (n : Nat) (x : BitVec 32) (h : ∀ i, i < n → x.getLsbD i = false) : steps n x = x >>> n := by
  induction n with
  | zero => simp [steps]
  | succ n ih =>
    rw [steps, ih (fun i hi => h i (by omega))]
    unfold step
    rw [BitVec.getLsbD_ushiftRight, if_neg (by rw [Nat.add_zero, h n (by omega)]; decide)]
    rw [BitVec.shiftRight_add]
theorem steps4_half (x : BitVec 32) : steps 4 x = nib (x.toNat % 16) ^^^ (x >>> 4) := by
  have hx : x = BitVec.ofNat 32 (x.toNat % 16) ^^^ (x ^^^ BitVec.ofNat 32 (x.toNat % 16)) := by
    rw [BitVec.xor_comm x, ← BitVec.xor_assoc, BitVec.xor_self, BitVec.zero_xor]
  have hl : ∀ i, (BitVec.ofNat 32 (x.toNat % 16)).getLsbD i = (decide (i < 4) && x.getLsbD i) := by
    intro i
    rw [BitVec.getLsbD_ofNat, show (16 : Nat) = 2 ^ 4 from rfl, Nat.testBit_mod_two_pow, BitVec.getLsbD]
    by_cases h4 : i < 4
    · have : i < 32 := by omega
      simp [h4, this]
    · simp [h4]
  have h0 : ∀ i, i < 4 → (x ^^^ BitVec.ofNat 32 (x.toNat % 16)).getLsbD i = false := by
    intro i hi
    rw [BitVec.getLsbD_xor, hl]; simp [hi]
  have hr : (x ^^^ BitVec.ofNat 32 (x.toNat % 16)) >>> 4 = x >>> 4 := by
    apply BitVec.eq_of_getLsbD_eq
    intro i _
    rw [BitVec.getLsbD_ushiftRight, BitVec.getLsbD_ushiftRight, BitVec.getLsbD_xor, hl]
    have : ¬ 4 + i < 4 := by omega
    simp [this]
  have e : steps 4 x = steps 4 (BitVec.ofNat 32 (x.toNat % 16) ^^^ (x ^^^ BitVec.ofNat 32 (x.toNat % 16))) := by rw [← hx]
  rw [e, steps_xor, steps_shift 4 _ h0, hr]; rfl
theorem and15_form (x : BitVec 32) : bits .and .u32 (U x) 15 = ((x.toNat % 16 : Nat) : Int) := by
  unfold U
  rw [show (15 : Int) = ((15 : Nat) : Int) from rfl, u32_and_nat _ _ x.isLt (by omega)]
  rw [show (15 : Nat) = 2 ^ 4 - 1 from rfl, Nat.and_two_pow_sub_one_eq_mod]
theorem half_form (x : BitVec 32) : bits .xor .u32 (U (nib (x.toNat % 16))) (U x / (16 : Int)) = U (steps 4 x) := by
  rw [U_div16, bits_xor_U, steps4_half]
theorem byte_form (x : BitVec 32) (b : UInt8) : bits .xor .u32 (U x) (b.toNat : Int) = U (x ^^^ BitVec.ofNat 32 b.toNat) := by
  have h : ((b.toNat : Nat) : Int) = U (BitVec.ofNat 32 b.toNat) := by rw [U_ofNat _ (by have := b.toNat_lt; omega)]
  rw [h, bits_xor_U]
theorem not_form (x : BitVec 32) : bits .xor .u32 4294967295 (U x) = U (~~~ x) := by
  have h : (4294967295 : Int) = U (BitVec.allOnes 32) := by decide
  rw [h, bits_xor_U, BitVec.xor_comm, BitVec.xor_allOnes]
theorem reg_snoc (x : BitVec 32) (bs : List UInt8) (b : UInt8) : reg x (bs ++ [b]) = steps 4 (steps 4 (reg x bs ^^^ BitVec.ofNat 32 b.toNat)) := by
  rw [reg, List.foldl_append, ← steps_add]; rfl
theorem reg_append (x : BitVec 32) (a b : List UInt8) : reg x (a ++ b) = reg (reg x a) b := by
  rw [reg, List.foldl_append]; rfl
theorem take_succ_getD (bs : List UInt8) (k : Nat) (h : k < bs.length) : bs.take (k + 1) = bs.take k ++ [bs.getD k 0] := by
  rw [List.take_succ_eq_append_getElem h, List.getD_eq_getElem?_getD, List.getElem?_eq_getElem h]; rfl
theorem reg_take_succ (x : BitVec 32) (bs : List UInt8) (k : Nat) (h : k < bs.length) : reg x (bs.take (k + 1)) = steps 4 (steps 4 (reg x (bs.take k) ^^^ BitVec.ofNat 32 (bs.getD k 0).toNat)) := by
  rw [take_succ_getD bs k h, reg_snoc]
theorem not_form' (x : BitVec 32) : bits .xor .u32 IntKind.u32.max (U x) = U (~~~ x) := not_form x
theorem round_forms (r : BitVec 32) (b : UInt8) : ∃ (B n1 n2 : Nat) (X1 X2 N1 N2 X3 : Int), B = b.toNat ∧ B < 256 ∧ bits .xor .u32 (U r) (B : Int) = X1 ∧ 0 ≤ X1 ∧ bits .and .u32 X1 15 = (n1 : Int) ∧ n1 < 16 ∧ nibV[n1]? = some (.int .u32 N1) ∧
    bits .xor .u32 N1 (X1 / (16 : Int)) = X2 ∧ 0 ≤ X2 ∧ bits .and .u32 X2 15 = (n2 : Int) ∧ n2 < 16 ∧ nibV[n2]? = some (.int .u32 N2) ∧ bits .xor .u32 N2 (X2 / (16 : Int)) = X3 ∧ X3 = U (steps 4 (steps 4 (r ^^^ BitVec.ofNat 32 b.toNat))) :=
  ⟨b.toNat, _, _, _, _, _, _, _, rfl, b.toNat_lt, byte_form r b, U0 _, and15_form _, Nat.mod_lt _ (by omega), nibV_get _ (Nat.mod_lt _ (by omega)), half_form _, U0 _, and15_form _, Nat.mod_lt _ (by omega), nibV_get _ (Nat.mod_lt _ (by omega)), half_form _, rfl⟩
theorem reg_take_succ8 (x : BitVec 32) (bs : List UInt8) (k : Nat) (h : k < bs.length) : reg x (bs.take (k + 1)) = steps 8 (reg x (bs.take k) ^^^ BitVec.ofNat 32 (bs.getD k 0).toNat) := by
  rw [reg_take_succ x bs k h, ← steps_add]
/-- A word's four bytes, the lowest one first. -/
def leAt (n : BitVec 32) (k : Nat) : UInt8 := UInt8.ofNat (n.toNat / 2 ^ (8 * k) % 256)
def le (n : BitVec 32) : List UInt8 := [leAt n 0, leAt n 1, leAt n 2, leAt n 3]
def sealed (bs : List UInt8) : List UInt8 := bs ++ le (sum bs)
theorem sealed_length (bs : List UInt8) : (sealed bs).length = bs.length + 4 := by simp [sealed, le]
theorem le_take_succ (n : BitVec 32) (k : Nat) (h : k < 4) : (le n).take (k + 1) = (le n).take k ++ [leAt n k] := by
  have : k = 0 ∨ k = 1 ∨ k = 2 ∨ k = 3 := by omega
  rcases this with rfl | rfl | rfl | rfl <;> rfl
end Go.Proofs.Ytbonockefjenaaa
