/-
  Bj: several texts in one.
-/
import Derived.Test.YthjdbmfobmnnlaaGreatBa
import Derived.Deep.RegionWith
import Derived.Deep.RegionHeld3
import Derived.Deep.DeepCutAuto
import Derived.Deep.DrawnRows
import Derived.WalkKit
import Derived.Lib.Hide
import Derived.Test.YthjdbmfobmnnlaaGreatProg
/-
  Bytes as elements of a slice.
-/
namespace Go.Proofs.YthjdbmfobmnnlaaGreat
open Go.RowKit
theorem elemB : Elem Tryz.prog 48 5 (.int .u8 0) 1 1 := ⟨Tryz.underlying48, by kernel_rfl, rfl, by omega⟩
end Go.Proofs.YthjdbmfobmnnlaaGreat

/-
  Bytes read as a string.
-/
namespace Go.Proofs.YthjdbmfobmnnlaaGreat
open Go.RowKit

/-- Bytes as a string. -/
def strOf (bs : List UInt8) : ByteArray := ⟨bs.toArray⟩
theorem strOf_inj {bs cs : List UInt8} (h : strOf bs = strOf cs) : bs = cs := by
  have := congrArg (fun s => s.data.toList) h
  simpa [strOf] using this
theorem strOf_bytes (bs : List UInt8) : strOfNums (bs.map fun b => (b.toNat : Int)) = strOf bs := by
  unfold strOf strOfNums
  simp [Function.comp_def]
theorem str_test (x y : List UInt8) : (!(strOf x).toList == (strOf y).toList) = !decide (x = y) := by
  have e : ∀ z : List UInt8, (strOf z).toList = z := fun z => by simp [strOf]
  rw [e, e]
  by_cases h : x = y <;> simp [h]
theorem own_le {w : World} {base : Nat} {e : TypeId} {size : Nat} {A : Option Addr} {n cap : Nat} {xs : List Value} (h : w.ownsRow base e size (.slice A n cap) n xs) : n ≤ cap := by
  obtain ⟨a, c, hv, hc⟩ := own_form h
  cases hv
  exact hc
theorem own_none {w : World} {base : Nat} {e : TypeId} {size : Nat} {A : Option Addr} {n cap : Nat} {xs : List Value} (h : w.ownsRow base e size (.slice A n cap) n xs) : A = none → n = 0 := by
  rintro rfl
  rcases h.2 with ⟨_, h0⟩ | ⟨g, c, cur, hv, _⟩
  · exact h0
  · cases hv
theorem run_convert_cells {A : Option Addr} {bs : List UInt8} (cap : Nat) (w : World) (h : CellsB w A bs) (hz : A = none → bs.length = 0) :
    (convert 48 9 (.slice A bs.length cap)).run Tryz.prog w = .ok (.string (strOf bs)) w := by
  rcases A with _ | ad
  · obtain rfl := List.eq_nil_of_length_eq_zero (hz rfl)
    exact run_convert_bytes_nil (P := Tryz.prog) w 48 5 Tryz.underlying48 Tryz.underlying5 0 cap 9 Tryz.underlying9
  · by_cases h0 : bs = []
    · subst h0
      rw [run_convert_bytes_string (P := Tryz.prog) w 48 9 5 _ _ cap Tryz.underlying48 Tryz.underlying5 Tryz.underlying9]
      exact run_bytesToString (P := Tryz.prog) w ad 0 cap [] (by simp [loadCells, loadCellsFrom])
    · obtain ⟨b, off, he, _, hc⟩ := h.resolve_left (by simpa using h0)
      cases he
      have := run_convert_bytes_arg (P := Tryz.prog) w 48 5 Tryz.underlying48 Tryz.underlying5 b off bs.length cap (bs.map fun b => (b.toNat : Int)) (by simp) (fun i hi => by
        rw [hc i (byteV bs[i]) (by simp [hi])]
        simp [byteV, hi]) 9 Tryz.underlying9
      rwa [strOf_bytes] at this
end Go.Proofs.YthjdbmfobmnnlaaGreat

/-
  Helpers that more than one layer uses, with bytes.
-/

/-
  The plain mathematics of the sum (layer 1): words of 32 bits, one step of the division, half bytes, bytes. No program is named here.
-/
namespace Go.Proofs.YthjdbmfobmnnlaaGreat
open Go.RowKit

/-- A word as the model's integer. -/
def U (x : BitVec 32) : Int := (x.toNat : Int)
theorem U0 (x : BitVec 32) : 0 ≤ U x := by unfold U; omega
theorem U1 (x : BitVec 32) : U x < 4294967296 := by unfold U; have := x.isLt; omega
theorem U_inj {x y : BitVec 32} (h : U x = U y) : x = y := by
  apply BitVec.eq_of_toNat_eq
  unfold U at h
  omega
theorem U_eq_iff {x y : BitVec 32} : U x = U y ↔ x = y := ⟨U_inj, fun h => by rw [h]⟩
theorem U_ofNat (n : Nat) (h : n < 4294967296) : U (BitVec.ofNat 32 n) = n := by
  unfold U; rw [BitVec.toNat_ofNat, Nat.mod_eq_of_lt (by omega)]
theorem exists_U (a : Int) (h : (Lit.int .u32 a).wf = true) : ∃ x, a = U x := by
  have h' : 0 ≤ a ∧ a < 4294967296 := by
    simp [Lit.wf, IntKind.min, IntKind.max, IntKind.signed, IntKind.bits] at h
    omega
  exact ⟨BitVec.ofNat 32 a.toNat, by rw [U_ofNat _ (by omega)]; omega⟩
theorem U_wf (x : BitVec 32) : (Lit.int .u32 (U x)).wf = true := by
  have := U0 x; have := U1 x
  simp [Lit.wf, IntKind.min, IntKind.max, IntKind.signed, IntKind.bits]
  omega

/-- The polynomial, reversed. -/
def poly : BitVec 32 := 0xedb88320#32
/-- One step of the division. -/
def step (x : BitVec 32) : BitVec 32 := if x.getLsbD 0 then (x >>> 1) ^^^ poly else x >>> 1
def steps : Nat → BitVec 32 → BitVec 32
  | 0, x => x
  | n + 1, x => step (steps n x)
/-- The sums of half bytes. -/
def nib (n : Nat) : BitVec 32 := steps 4 (BitVec.ofNat 32 n)
/-- One byte more in the register. -/
def bstep (x : BitVec 32) (b : UInt8) : BitVec 32 := steps 8 (x ^^^ BitVec.ofNat 32 b.toNat)
def reg (x : BitVec 32) (bs : List UInt8) : BitVec 32 := bs.foldl bstep x
def more (s : BitVec 32) (bs : List UInt8) : BitVec 32 := ~~~ (reg (~~~ s) bs)
def sum (bs : List UInt8) : BitVec 32 := more 0#32 bs

theorem bits_xor_U (x y : BitVec 32) : bits .xor .u32 (U x) (U y) = U (x ^^^ y) := by
  unfold U; rw [u32_xor_nat _ _ x.isLt y.isLt, BitVec.toNat_xor]
theorem bits_and_U (x y : BitVec 32) : bits .and .u32 (U x) (U y) = U (x &&& y) := by
  unfold U; rw [u32_and_nat _ _ x.isLt y.isLt, BitVec.toNat_and]
theorem U_div2 (x : BitVec 32) : U x / (2 : Int) = U (x >>> 1) := by
  unfold U; rw [BitVec.toNat_ushiftRight, Nat.shiftRight_eq_div_pow]; omega
theorem U_div16 (x : BitVec 32) : U x / (16 : Int) = U (x >>> 4) := by
  unfold U; rw [BitVec.toNat_ushiftRight, Nat.shiftRight_eq_div_pow]; omega
theorem lsb_toNat (x : BitVec 32) : x.getLsbD 0 = decide (x.toNat % 2 = 1) := by
  rw [BitVec.getLsbD, Nat.testBit_zero]
theorem U_and1 (x : BitVec 32) : bits .and .u32 (U x) 1 = if x.getLsbD 0 then 1 else 0 := by
  have h : (1 : Int) = U 1#32 := rfl
  rw [h, bits_and_U, lsb_toNat]
  unfold U
  rw [BitVec.toNat_and, show (1#32).toNat = 1 from rfl, Nat.and_one_is_mod]
  by_cases h2 : x.toNat % 2 = 1
  · simp [h2]
  · have : x.toNat % 2 = 0 := by omega
    simp [this]
theorem step_form (x : BitVec 32) : bits .xor .u32 (U x / 2) (bits .and .u32 (-bits .and .u32 (U x) 1 % 4294967296) 3988292384) = U (step x) := by
  rw [U_and1, U_div2]
  have hp : (3988292384 : Int) = U poly := rfl
  rw [hp]
  unfold step
  by_cases h : x.getLsbD 0
  · have h1 : (-1 : Int) % 4294967296 = U (BitVec.allOnes 32) := by decide
    simp only [h, if_true]
    rw [h1, bits_and_U, bits_xor_U, BitVec.allOnes_and]
  · have h1 : (-0 : Int) % 4294967296 = U 0#32 := by decide
    simp only [h]
    simp only [Bool.false_eq_true, if_false]
    rw [h1, bits_and_U, bits_xor_U, BitVec.zero_and, BitVec.xor_zero]
theorem U_tdiv (x : BitVec 32) (d : Nat) (hd : 0 < d) : (U x).tdiv (d : Int) % 4294967296 = U x / (d : Int) := by
  have h0 := U0 x
  have h1 := U1 x
  rw [Int.tdiv_eq_ediv_of_nonneg h0]
  have h2 : 0 ≤ U x / (d : Int) := Int.ediv_nonneg h0 (by omega)
  have h3 : U x / (d : Int) ≤ U x := Int.ediv_le_self _ h0
  exact Int.emod_eq_of_lt h2 (by omega)
/-- The document's own step. -/
theorem step_ref_odd (x : BitVec 32) (h : U x % 2 = 1) : bits .xor .u32 ((U x).tdiv 2 % 4294967296) 3988292384 = U (step x) := by
  rw [show (2 : Int) = ((2 : Nat) : Int) from rfl, U_tdiv x 2 (by omega)]
  have hp : (3988292384 : Int) = U poly := rfl
  rw [hp, show ((2 : Nat) : Int) = (2 : Int) from rfl, U_div2, bits_xor_U]
  unfold step
  rw [lsb_toNat, if_pos]
  unfold U at h
  simp; omega
theorem step_ref_even (x : BitVec 32) (h : U x % 2 = 0) : (U x).tdiv 2 % 4294967296 = U (step x) := by
  rw [show (2 : Int) = ((2 : Nat) : Int) from rfl, U_tdiv x 2 (by omega), show ((2 : Nat) : Int) = (2 : Int) from rfl]
  rw [U_div2]
  unfold step
  rw [lsb_toNat, if_neg]
  unfold U at h
  simp; omega

/-- The array of the sums of half bytes, of which the first k are reckoned. -/
def tabV (k : Nat) : Array Value := ((List.range 16).map fun j => Value.int .u32 (if j < k then U (nib j) else 0)).toArray
def nibV : Array Value := tabV 16
theorem tabV_zero : #[Value.int IntKind.u32 0, Value.int IntKind.u32 0, Value.int IntKind.u32 0, Value.int IntKind.u32 0, Value.int IntKind.u32 0, Value.int IntKind.u32 0, Value.int IntKind.u32 0, Value.int IntKind.u32 0, Value.int IntKind.u32 0, Value.int IntKind.u32 0, Value.int IntKind.u32 0, Value.int IntKind.u32 0, Value.int IntKind.u32 0, Value.int IntKind.u32 0, Value.int IntKind.u32 0, Value.int IntKind.u32 0] = tabV 0 := rfl
theorem tabV_size (k : Nat) : (tabV k).size = 16 := by simp [tabV]
theorem tabV_at (k : Nat) (h : k < 16) : (tabV k)[k]? = some (.int .u32 0) := by simp [tabV, h]
theorem tabV_get (k j : Nat) (h : j < 16) : (tabV k)[j]? = some (.int .u32 (if j < k then U (nib j) else 0)) := by simp [tabV, h]
theorem tabV_set (k : Nat) (h : k < 16) : (tabV k).setIfInBounds k (.int .u32 (U (nib k))) = tabV (k + 1) := by
  apply Array.ext_getElem?
  intro i
  rw [Array.getElem?_setIfInBounds, tabV_size]
  by_cases hi : i < 16
  · rw [tabV_get _ _ hi, tabV_get _ _ hi]
    by_cases e : k = i
    · subst e; simp [h]
    · simp only [e, if_false]
      congr 3
      by_cases h1 : i < k
      · simp [h1]; omega
      · have : ¬ i < k + 1 := by omega
        simp [h1, this]
  · have h1 : (tabV k)[i]? = none := by rw [Array.getElem?_eq_none]; rw [tabV_size]; omega
    have h2 : (tabV (k + 1))[i]? = none := by rw [Array.getElem?_eq_none]; rw [tabV_size]; omega
    rw [h1, h2]
    have : k ≠ i := by omega
    simp [this]
theorem nibV_size : nibV.size = 16 := tabV_size 16
theorem nibV_get (j : Nat) (h : j < 16) : nibV[j]? = some (.int .u32 (U (nib j))) := by
  rw [nibV, tabV_get _ _ h, if_pos h]
theorem nibV_one : nibV.all (·.oneCell') = true := by kernel_rfl
def nibL : Array Value := #[.int .u32 0, .int .u32 498536548, .int .u32 997073096, .int .u32 651767980, .int .u32 1994146192, .int .u32 1802195444, .int .u32 1303535960, .int .u32 1342533948, .int .u32 3988292384, .int .u32 4027552580, .int .u32 3604390888, .int .u32 3412177804, .int .u32 2607071920, .int .u32 2262029012, .int .u32 2685067896, .int .u32 3183342108]
theorem nibV_lit : nibV = nibL := by kernel_rfl
/-! ### The steps are linear and lose nothing -/
theorem step_xor (x y : BitVec 32) : step (x ^^^ y) = step x ^^^ step y := by
  unfold step
  rw [BitVec.getLsbD_xor, BitVec.ushiftRight_xor_distrib]
  cases x.getLsbD 0 <;> cases y.getLsbD 0 <;> simp only [Bool.xor_false, Bool.xor_true, Bool.not_true, Bool.not_false, if_true, if_false, Bool.false_eq_true]
  · rw [BitVec.xor_assoc]
  · rw [BitVec.xor_assoc, BitVec.xor_assoc, BitVec.xor_comm poly]
  · have h : ∀ a b p : BitVec 32, a ^^^ b = a ^^^ p ^^^ (b ^^^ p) := fun a b p => by
      rw [BitVec.xor_assoc, ← BitVec.xor_assoc p, BitVec.xor_comm p b, BitVec.xor_assoc b, BitVec.xor_self, BitVec.xor_zero]
    exact h _ _ _
theorem step_zero : step 0#32 = 0#32 := by decide
theorem steps_xor (n : Nat) (x y : BitVec 32) : steps n (x ^^^ y) = steps n x ^^^ steps n y := by
  induction n with
  | zero => rfl
  | succ n ih => rw [steps, ih, step_xor]; rfl
theorem steps_zero (n : Nat) : steps n 0#32 = 0#32 := by
  induction n with
  | zero => rfl
  | succ n ih => rw [steps, ih, step_zero]
theorem steps_add (m n : Nat) (x : BitVec 32) : steps (m + n) x = steps m (steps n x) := by
  induction m with
  | zero => rw [Nat.zero_add]; rfl
  | succ m ih => rw [Nat.succ_add, steps, ih]; rfl
theorem xor_cancel (a b : BitVec 32) : a ^^^ b ^^^ b = a := by rw [BitVec.xor_assoc, BitVec.xor_self, BitVec.xor_zero]
theorem eq_of_xor {a b : BitVec 32} (h : a ^^^ b = 0#32) : a = b := by
  have := xor_cancel a b
  rw [h, BitVec.zero_xor] at this
  exact this.symm
theorem step_top (x : BitVec 32) : (step x).getLsbD 31 = x.getLsbD 0 := by
  unfold step
  by_cases h : x.getLsbD 0
  · rw [if_pos h, BitVec.getLsbD_xor, BitVec.getLsbD_ushiftRight, h]
    have : x.getLsbD (1 + 31) = false := BitVec.getLsbD_of_ge _ _ (by omega)
    rw [this]; decide
  · rw [if_neg h, BitVec.getLsbD_ushiftRight]
    have : x.getLsbD (1 + 31) = false := BitVec.getLsbD_of_ge _ _ (by omega)
    rw [this]; simpa using h
theorem step_eq_zero {x : BitVec 32} (h : step x = 0#32) : x = 0#32 := by
  have h0 : x.getLsbD 0 = false := by rw [← step_top, h]; decide
  unfold step at h
  rw [if_neg (by rw [h0]; decide)] at h
  apply BitVec.eq_of_getLsbD_eq
  intro i hi
  rw [BitVec.getLsbD_zero]
  cases i with
  | zero => exact h0
  | succ i =>
    have := congrArg (fun z => BitVec.getLsbD z i) h
    simp only [BitVec.getLsbD_ushiftRight, BitVec.getLsbD_zero] at this
    rwa [Nat.add_comm] at this
theorem steps_eq_zero {n : Nat} {x : BitVec 32} (h : steps n x = 0#32) : x = 0#32 := by
  induction n with
  | zero => exact h
  | succ n ih => exact ih (step_eq_zero h)
theorem steps_inj {n : Nat} {x y : BitVec 32} (h : steps n x = steps n y) : x = y := by
  apply eq_of_xor
  apply steps_eq_zero (n := n)
  rw [steps_xor, h, BitVec.xor_self]
/-! ### Half a byte at a time -/
theorem steps_shift (n : Nat) (x : BitVec 32) (h : ∀ i, i < n → x.getLsbD i = false) : steps n x = x >>> n := by
  induction n with
  | zero => simp [steps]
  | succ n ih =>
    rw [steps, ih (fun i hi => h i (by omega))]
    unfold step
    rw [BitVec.getLsbD_ushiftRight, if_neg (by rw [Nat.add_zero, h n (by omega)]; decide)]
    rw [BitVec.shiftRight_add]
theorem steps4_half (x : BitVec 32) : steps 4 x = nib (x.toNat % 16) ^^^ (x >>> 4) := by
  have hx : x = BitVec.ofNat 32 (x.toNat % 16) ^^^ (x ^^^ BitVec.ofNat 32 (x.toNat % 16)) := by
    rw [BitVec.xor_comm x, ← BitVec.xor_assoc, BitVec.xor_self, BitVec.zero_xor]
  have hl : ∀ i, (BitVec.ofNat 32 (x.toNat % 16)).getLsbD i = (decide (i < 4) && x.getLsbD i) := by
    intro i
    rw [BitVec.getLsbD_ofNat, show (16 : Nat) = 2 ^ 4 from rfl, Nat.testBit_mod_two_pow, BitVec.getLsbD]
    by_cases h4 : i < 4
    · have : i < 32 := by omega
      simp [h4, this]
    · simp [h4]
  have h0 : ∀ i, i < 4 → (x ^^^ BitVec.ofNat 32 (x.toNat % 16)).getLsbD i = false := by
    intro i hi
    rw [BitVec.getLsbD_xor, hl]; simp [hi]
  have hr : (x ^^^ BitVec.ofNat 32 (x.toNat % 16)) >>> 4 = x >>> 4 := by
    apply BitVec.eq_of_getLsbD_eq
    intro i _
    rw [BitVec.getLsbD_ushiftRight, BitVec.getLsbD_ushiftRight, BitVec.getLsbD_xor, hl]
    have : ¬ 4 + i < 4 := by omega
    simp [this]
  have e : steps 4 x = steps 4 (BitVec.ofNat 32 (x.toNat % 16) ^^^ (x ^^^ BitVec.ofNat 32 (x.toNat % 16))) := by rw [← hx]
  rw [e, steps_xor, steps_shift 4 _ h0, hr]; rfl
theorem and15_form (x : BitVec 32) : bits .and .u32 (U x) 15 = ((x.toNat % 16 : Nat) : Int) := by
  unfold U
  rw [show (15 : Int) = ((15 : Nat) : Int) from rfl, u32_and_nat _ _ x.isLt (by omega)]
  rw [show (15 : Nat) = 2 ^ 4 - 1 from rfl, Nat.and_two_pow_sub_one_eq_mod]
theorem half_form (x : BitVec 32) : bits .xor .u32 (U (nib (x.toNat % 16))) (U x / (16 : Int)) = U (steps 4 x) := by
  rw [U_div16, bits_xor_U, steps4_half]
theorem byte_form (x : BitVec 32) (b : UInt8) : bits .xor .u32 (U x) (b.toNat : Int) = U (x ^^^ BitVec.ofNat 32 b.toNat) := by
  have h : ((b.toNat : Nat) : Int) = U (BitVec.ofNat 32 b.toNat) := by rw [U_ofNat _ (by have := b.toNat_lt; omega)]
  rw [h, bits_xor_U]
theorem not_form (x : BitVec 32) : bits .xor .u32 4294967295 (U x) = U (~~~ x) := by
  have h : (4294967295 : Int) = U (BitVec.allOnes 32) := by decide
  rw [h, bits_xor_U, BitVec.xor_comm, BitVec.xor_allOnes]
theorem reg_snoc (x : BitVec 32) (bs : List UInt8) (b : UInt8) : reg x (bs ++ [b]) = steps 4 (steps 4 (reg x bs ^^^ BitVec.ofNat 32 b.toNat)) := by
  rw [reg, List.foldl_append, ← steps_add]; rfl
theorem reg_append (x : BitVec 32) (a b : List UInt8) : reg x (a ++ b) = reg (reg x a) b := by
  rw [reg, List.foldl_append]; rfl
theorem take_succ_getD (bs : List UInt8) (k : Nat) (h : k < bs.length) : bs.take (k + 1) = bs.take k ++ [bs.getD k 0] := by
  rw [List.take_succ_eq_append_getElem h, List.getD_eq_getElem?_getD, List.getElem?_eq_getElem h]; rfl
theorem reg_take_succ (x : BitVec 32) (bs : List UInt8) (k : Nat) (h : k < bs.length) : reg x (bs.take (k + 1)) = steps 4 (steps 4 (reg x (bs.take k) ^^^ BitVec.ofNat 32 (bs.getD k 0).toNat)) := by
  rw [take_succ_getD bs k h, reg_snoc]
theorem not_form' (x : BitVec 32) : bits .xor .u32 IntKind.u32.max (U x) = U (~~~ x) := not_form x
theorem round_forms (r : BitVec 32) (b : UInt8) : ∃ (B n1 n2 : Nat) (X1 X2 N1 N2 X3 : Int), B = b.toNat ∧ B < 256 ∧ bits .xor .u32 (U r) (B : Int) = X1 ∧ 0 ≤ X1 ∧ bits .and .u32 X1 15 = (n1 : Int) ∧ n1 < 16 ∧ nibV[n1]? = some (.int .u32 N1) ∧
    bits .xor .u32 N1 (X1 / (16 : Int)) = X2 ∧ 0 ≤ X2 ∧ bits .and .u32 X2 15 = (n2 : Int) ∧ n2 < 16 ∧ nibV[n2]? = some (.int .u32 N2) ∧ bits .xor .u32 N2 (X2 / (16 : Int)) = X3 ∧ X3 = U (steps 4 (steps 4 (r ^^^ BitVec.ofNat 32 b.toNat))) :=
  ⟨b.toNat, _, _, _, _, _, _, _, rfl, b.toNat_lt, byte_form r b, U0 _, and15_form _, Nat.mod_lt _ (by omega), nibV_get _ (Nat.mod_lt _ (by omega)), half_form _, U0 _, and15_form _, Nat.mod_lt _ (by omega), nibV_get _ (Nat.mod_lt _ (by omega)), half_form _, rfl⟩
theorem reg_take_succ8 (x : BitVec 32) (bs : List UInt8) (k : Nat) (h : k < bs.length) : reg x (bs.take (k + 1)) = steps 8 (reg x (bs.take k) ^^^ BitVec.ofNat 32 (bs.getD k 0).toNat) := by
  rw [reg_take_succ x bs k h, ← steps_add]
/-- A word's four bytes, the lowest one first. -/
def leAt (n : BitVec 32) (k : Nat) : UInt8 := UInt8.ofNat (n.toNat / 2 ^ (8 * k) % 256)
def le (n : BitVec 32) : List UInt8 := [leAt n 0, leAt n 1, leAt n 2, leAt n 3]
def sealed (bs : List UInt8) : List UInt8 := bs ++ le (sum bs)
theorem sealed_length (bs : List UInt8) : (sealed bs).length = bs.length + 4 := by simp [sealed, le]
theorem le_take_succ (n : BitVec 32) (k : Nat) (h : k < 4) : (le n).take (k + 1) = (le n).take k ++ [leAt n k] := by
  have : k = 0 ∨ k = 1 ∨ k = 2 ∨ k = 3 := by omega
  rcases this with rfl | rfl | rfl | rfl <;> rfl
end Go.Proofs.YthjdbmfobmnnlaaGreat

/-
  The contracts of layer 1's functions: what each of them computes, shown by walking its text.
-/
namespace Go.Proofs.YthjdbmfobmnnlaaGreat
open Go.RowKit

set_option maxHeartbeats 400000 in
theorem nibbles_any (w : World) :
    Calls Tryz.prog 174 #[] w fun e w' => e = .returned (.agg nibV) ∧ Below w.heap.size w w' := by
  have E0 := Lib.hid tabV_zero
  go_enter Tryz.func174, Tryz.ntmps174
  go_wp2
  rw [E0.out]
  go_loopw [4] (fun i wr => ∃ k : Nat, k ≤ 16 ∧ i = .int .i64 k ∧ wr = (w.alloc (.cells (tabV 0) 251)).alloc (.cells (tabV k) 251)) (fun i _ => 16 - (intOf i).toNat)
  case atStart => exact ⟨0, by omega, rfl, rfl⟩
  case round =>
    obtain ⟨k, hk, rfl, rfl⟩ := hrel
    by_cases hlt : k < 16
    · have HC := Lib.hid (tabV_at k hlt)
      have HS := Lib.hid (tabV_set k hlt)
      go_wp2
      go_loop [3, 9] (fun x j => ∃ m : Nat, m ≤ 4 ∧ j = .int .i64 m ∧ x = .int .u32 (U (steps m (BitVec.ofNat 32 k)))) (fun _ j => 4 - (intOf j).toNat)
      case atStart => exact ⟨0, by omega, rfl, by rw [steps, U_ofNat _ (by omega)]⟩
      case round =>
        obtain ⟨m, hm, rfl, rfl⟩ := hrel
        by_cases hlt : m < 4
        · have HF := Lib.hid (step_form (steps m (BitVec.ofNat 32 k)))
          have H0 := U0 (steps m (BitVec.ofNat 32 k))
          generalize U (steps m (BitVec.ofNat 32 k)) = X at HF H0
          go_wp2
          go_round
          case rel => exact ⟨m + 1, by omega, by go_num, by rw [HF.out]; rfl⟩
          case measure => simp [intOf]; omega
        · obtain rfl : m = 4 := by omega
          have hcell := HC.out
          rw [nib] at HS
          generalize U (steps 4 (BitVec.ofNat 32 k)) = Y at HS
          go_wp2
          go_roundw
          case rel => exact ⟨k + 1, by omega, by go_num, by rw [HS.out]⟩
          case measure => simp [intOf]; omega
    · obtain rfl : k = 16 := by omega
      have ht : tabV 16 = nibL := nibV_lit
      rw [ht, ← tabV_zero, nibL]
      clear ht
      go_wp2
      refine bodyPost_ret (v := .agg nibL) (by simp [results, Tryz.results174, go_sem]; rfl) rfl ⟨by rw [nibV_lit], ?_⟩
      exact ((Below.refl _ _).alloc (Nat.le_refl _) _).alloc (by simp) _
theorem storeNib (W : World) : (storeCells ⟨W.heap.size, 0, none⟩ nibV.toList 0).run Tryz.prog (W.alloc (.cells #[.int .u32 0, .int .u32 0, .int .u32 0, .int .u32 0, .int .u32 0, .int .u32 0, .int .u32 0, .int .u32 0, .int .u32 0, .int .u32 0, .int .u32 0, .int .u32 0, .int .u32 0, .int .u32 0, .int .u32 0, .int .u32 0] 251)) = .ok () (W.alloc (.cells nibV 251)) :=
  run_storeCells_new W 251 #[.int .u32 0, .int .u32 0, .int .u32 0, .int .u32 0, .int .u32 0, .int .u32 0, .int .u32 0, .int .u32 0, .int .u32 0, .int .u32 0, .int .u32 0, .int .u32 0, .int .u32 0, .int .u32 0, .int .u32 0, .int .u32 0] nibV (by rw [nibV_size]; kernel_rfl) (by rw [nibV_size]; rfl) nibV_one
set_option maxHeartbeats 400000 in
theorem more_any (s : BitVec 32) (a : Option Addr) (cap : Nat) (bs : List UInt8) (w : World) (hb : CellsB w a bs) (hl : bs.length ≤ 1000000) :
    Calls Tryz.prog 111 #[.int .u32 (U s), .slice a bs.length cap] w fun e w' => e = .returned (.int .u32 (U (more s bs))) ∧ Below w.heap.size w w' := by
  have hst := storeNib
  have hnot := not_form' s
  go_enter Tryz.func111, Tryz.ntmps111
  go_wp2
  refine scope_loop 0 (fun a' w' => ∃ (w1 : World) (k : Nat) (u2 u3 u8 u9 u10 u11 u12 u13 u14 u15 u16 u17 u18 u19 u20 u21 u22 u23 u24 u25 u26 u27 u28 u29 u30 u31 u32 u33 u34 u35 u36 u37 u38 u39 : Value), Below w.heap.size w w1 ∧ w' = w1.alloc (.cells nibV 251) ∧ k ≤ bs.length ∧ a' = { tmps := #[.int .u32 (U s), .slice a bs.length cap, u2, u3, .int .u32 0, .pointer (some ⟨w1.heap.size, 0, none⟩), .int .u32 (U (reg (~~~ s) (bs.take k))), .int .i64 k, u8, u9, u10, u11, u12, u13, u14, u15, u16, u17, u18, u19, u20, u21, u22, u23, u24, u25, u26, u27, u28, u29, u30, u31, u32, u33, u34, u35, u36, u37, u38, u39], defers := [] }) (fun a' _ => bs.length - (intOf (a'.tmps.getD 7 undef)).toNat) rfl ?_ ?_
  · clear hst hnot
    rintro a' w' ⟨w1, k, u2, u3, u8, u9, u10, u11, u12, u13, u14, u15, u16, u17, u18, u19, u20, u21, u22, u23, u24, u25, u26, u27, u28, u29, u30, u31, u32, u33, u34, u35, u36, u37, u38, u39, hb1, rfl, hk, rfl⟩
    by_cases hlt : k < bs.length
    · obtain ⟨b, off, rfl, hbl, hcell⟩ := hb.at hlt
      rw [← hb1.cell (p := ⟨b, off + k, none⟩) hbl] at hcell
      have hbl1 : b < w1.heap.size := Nat.lt_of_lt_of_le hbl hb1.size
      obtain ⟨B, n1, n2, X1, X2, N1, N2, X3, hB, hB1, e1, p1, e2, q1, c1, e3, p2, e4, q2, c2, e5, HX⟩ := round_forms (reg (~~~ s) (bs.take k)) (bs.getD k 0)
      rw [← hB] at hcell
      rw [← reg_take_succ _ _ _ hlt] at HX
      have HY := Lib.hid HX
      clear hB HX hb
      go_wp2
      go_step3
      obtain rfl := HY.out
      refine ⟨rfl, ⟨w1, k + 1, ?_⟩, by simp [intOf]; omega⟩
      repeat apply Exists.intro
      exact ⟨hb1, rfl, by omega, rfl⟩
    · obtain rfl : k = bs.length := by omega
      go_wp2
      simp only [Exit.jump]
      go_ret
      exact ⟨ret_int (not_form' (reg (~~~ s) bs)), (hb1.trans ((Below.refl _ _).alloc (Nat.le_refl _) _ |>.mono hb1.size))⟩
  · intro hp
    go_wp2_with ((go_at_call 174; refine (nibbles_any _).mono ?_; rintro e w1 ⟨rfl, hb1⟩))
    go_step3
    refine (by assumption : ∀ (a : Act) (w : World), _ → _) _ _ (hp _ _ ⟨w1, 0, ?_⟩)
    repeat apply Exists.intro
    exact ⟨hb1, rfl, by omega, rfl⟩
end Go.Proofs.YthjdbmfobmnnlaaGreat

/-
  The contracts of layer 1's functions, second part: the document's own sums; sums, copies, comparisons.
-/
namespace Go.Proofs.YthjdbmfobmnnlaaGreat
open Go.RowKit

theorem sum_any (a : Option Addr) (cap : Nat) (bs : List UInt8) (w : World) (hb : CellsB w a bs) (hl : bs.length ≤ 1000000) :
    Calls Tryz.prog 58 #[.slice a bs.length cap] w fun e w' => e = .returned (.int .u32 (U (sum bs))) ∧ Below w.heap.size w w' := by
  have hm : ∀ w, CellsB w a bs → Calls Tryz.prog 111 #[.int .u32 0, .slice a bs.length cap] w fun e w' => e = .returned (.int .u32 (U (sum bs))) ∧ Below w.heap.size w w' := fun w hb => more_any 0#32 a cap bs w hb hl
  have HM := Lib.hid hm; clear hm
  go_enter Tryz.func58, Tryz.ntmps58
  go_wp2_with (go_at_call 111; refine (HM.out _ hb).mono ?_; rintro e w' ⟨rfl, hbw⟩)
  go_ret
  exact ⟨rfl, hbw⟩
/-- What append leaves on a fresh row, read as a returned row. -/
theorem retRow_mk {w w' : World} {e : TypeId} {size n : Nat} {xs : List Value} {a : Option Addr} {cap : Nat} (h : w'.ownsRow w.heap.size e size (.slice a n cap) n xs) (hb : Below w.heap.size w w') : RetRow e size n xs w (.returned (.slice a n cap)) w' := ⟨a, cap, rfl, h, hb⟩
set_option maxHeartbeats 400000 in
theorem cloneC_any (a : Option Addr) (cap : Nat) (bs : List UInt8) (w : World) (hb : CellsB w a bs) (hz : a = none → bs.length = 0) (hl : bs.length ≤ 1000000) :
    Calls Tryz.prog 110 #[.slice a bs.length cap] w (RetRow 5 1 bs.length (bs.map byteV) w) := by
  rcases a with _ | ad
  · obtain rfl := List.eq_nil_of_length_eq_zero (hz rfl)
    have hnil : ∀ w, (binOp .eql 48 (.slice none 0 cap) (.slice none 0 0)).run Tryz.prog w = .ok (.bool true) w := fun w => Lib.run_eql_slice_nil (P := Tryz.prog) w 48 5 none 0 cap 0 0 Tryz.underlying48
    clear hz hb hl
    go_enter Tryz.func110, Tryz.ntmps110
    go_wp2
    go_ret
    exact ⟨none, 0, rfl, World.ownsRow_nil _ _ _ _, Below.refl _ _⟩
  · clear hz
    have hnil : ∀ w, (binOp .eql 48 (.slice (some ad) bs.length cap) (.slice none 0 0)).run Tryz.prog w = .ok (.bool false) w := fun w => Lib.run_eql_slice_nil (P := Tryz.prog) w 48 5 (some ad) bs.length cap 0 0 Tryz.underlying48
    go_enter Tryz.func110, Tryz.ntmps110
    go_wp2_with (at_builtin; refine wpList_append_row rfl (.tmp 5) (.tmp 6) rfl elemB w.heap.size _ 0 [] (by rfl) (World.ownsRow_lit w #[] 0 (Nat.le_refl _) (by unfold maxLen; omega) (by rfl)) _ _ _ (bs.map byteV) (by rfl) (by simp) (RowAt.alloc hb _) (byteV_one _) (by unfold maxLen; omega) (by omega) (by simp) (by simp) ?_; intro a' c' w1 hown hg hat)
    simp only [Nat.zero_add, List.nil_append] at hown ⊢
    have hbw : Below w.heap.size w w1 := Below.appended ((Below.refl _ _).alloc (Nat.le_refl _) _) (World.ownsRow_lit (e := 5) (size := 1) w #[] 0 (Nat.le_refl _) (by unfold maxLen; omega) (by rfl)) hg (by simp) (Nat.le_refl _)
    go_wp2
    go_ret
    exact ⟨a', c', rfl, hown, hbw⟩
theorem eq_of_take_all {bs cs : List UInt8} (h : bs.length = cs.length) (ht : bs.take bs.length = cs.take bs.length) : bs = cs := by
  rw [List.take_length] at ht
  rw [h, List.take_length] at ht
  exact ht
theorem ne_at {bs cs : List UInt8} {k : Nat} (h : ¬ (bs.getD k 0).toNat = (cs.getD k 0).toNat) : ¬ bs = cs := fun e => h (by rw [e])
theorem take_eq_succ {bs cs : List UInt8} {k : Nat} (h1 : k < bs.length) (h2 : k < cs.length) (ht : bs.take k = cs.take k) (h : (bs.getD k 0).toNat = (cs.getD k 0).toNat) : bs.take (k + 1) = cs.take (k + 1) := by
  rw [take_succ_getD bs k h1, take_succ_getD cs k h2, ht, UInt8.toNat_inj.1 h]
set_option maxHeartbeats 400000 in
theorem equal_any (a : Option Addr) (cap : Nat) (bs : List UInt8) (a2 : Option Addr) (cap2 : Nat) (cs : List UInt8) (w : World) (hb : CellsB w a bs) (hc : CellsB w a2 cs) (hl : bs.length ≤ 1000000) :
    Calls Tryz.prog 318 #[.slice a bs.length cap, .slice a2 cs.length cap2] w fun e w' => e = .returned (.bool (decide (bs = cs))) ∧ Below w.heap.size w w' := by
  by_cases hlen : bs.length = cs.length
  · have ht : ((bs.length : Int) != (cs.length : Int)) = false := by simp [hlen]
    have HL := Lib.hid hlen; clear hlen
    go_enter Tryz.func318, Tryz.ntmps318
    go_wp2
    go_loopw [13] (fun i wr => ∃ k : Nat, k ≤ bs.length ∧ i = .int .i64 k ∧ bs.take k = cs.take k ∧ Below w.heap.size w wr) (fun i _ => bs.length - (intOf i).toNat)
    case atStart => exact ⟨0, by omega, rfl, by simp, Below.refl _ _⟩
    case round =>
      obtain ⟨k, hk, rfl, htk, hbw⟩ := hrel
      have HT := Lib.hid htk; clear htk
      by_cases hlt : k < bs.length
      · have hlt2 : k < cs.length := by have := HL.out; omega
        obtain ⟨b, off, rfl, hbl, hcell⟩ := CellsB.at hb hlt
        obtain ⟨b2, off2, rfl, hbl2, hcell2⟩ := CellsB.at hc hlt2
        rw [← hbw.cell (p := ⟨b, off + k, none⟩) hbl] at hcell
        rw [← hbw.cell (p := ⟨b2, off2 + k, none⟩) hbl2] at hcell2
        have HN := Lib.hid (@ne_at bs cs k)
        have HE := Lib.hid (take_eq_succ hlt hlt2 HT.out)
        generalize (bs.getD k 0).toNat = X at hcell HN HE
        generalize (cs.getD k 0).toNat = Y at hcell2 HN HE
        have hk0 : (0 : Int) ≤ (k : Int) := by omega
        have hk1 : (k : Int) < (bs.length : Int) := by omega
        have hk2 : (k : Int) < (cs.length : Int) := by omega
        by_cases hxy : X = Y
        · have hq : ((X : Int) != (Y : Int)) = false := by simp [hxy]
          have HXY := Lib.hid hxy
          clear hxy hb hc ht
          go_wp2
          go_quiet (fail)
          go_wp2
          go_roundw
          case rel => exact ⟨k + 1, by omega, by go_num, HE.out HXY.out, below_drewN hbw _⟩
          case measure => simp [intOf]; omega
        · have hq : ((X : Int) != (Y : Int)) = true := by simp; omega
          have HXY := Lib.hid hxy
          clear hxy hb hc ht
          go_wp2
          go_quiet (fail)
          go_wp2
          go_ret
          exact ⟨ret_bool (by simp [HN.out HXY.out]), below_drewN hbw _⟩
      · obtain rfl : k = bs.length := by omega
        go_wp2
        go_ret
        exact ⟨ret_bool (by simp [eq_of_take_all HL.out HT.out]), hbw⟩
  · have ht : ((bs.length : Int) != (cs.length : Int)) = true := by simp; omega
    have HL := Lib.hid hlen; clear hlen
    go_enter Tryz.func318, Tryz.ntmps318
    go_wp2
    go_ret
    exact ⟨ret_bool (by have : ¬ bs = cs := fun e => HL.out (by rw [e]); simp [this]), Below.refl _ _⟩
end Go.Proofs.YthjdbmfobmnnlaaGreat

/-
  The contracts of layer 1's functions, third part: sealed bytes.
-/
namespace Go.Proofs.YthjdbmfobmnnlaaGreat
open Go.RowKit

theorem le_form (n : BitVec 32) (k : Nat) : Value.int .u8 (U n / 2 ^ (8 * k) % 256) = byteV (leAt n k) := by
  unfold byteV leAt U
  rw [UInt8.toNat_ofNat_of_lt' (Nat.mod_lt _ (by decide))]
  rw [Int.natCast_emod, Int.natCast_ediv, Int.natCast_pow]; rfl
theorem le_snoc (bs : List UInt8) (n : BitVec 32) (k : Nat) (h : k < 4) : (bs ++ (le n).take k).map byteV ++ [Value.int .u8 (U n / 2 ^ (8 * k) % 256)] = (bs ++ (le n).take (k + 1)).map byteV := by
  rw [le_form, le_take_succ n k h, ← List.append_assoc, List.map_append (l₂ := [leAt n k])]; rfl
set_option maxHeartbeats 400000 in
theorem sealB_any (a : Option Addr) (cap : Nat) (bs : List UInt8) (w : World) (hb : CellsB w a bs) (hz : a = none → bs.length = 0) (hl : bs.length ≤ 900000) :
    Calls Tryz.prog 248 #[.slice a bs.length cap] w (RetRow 5 1 (bs.length + 4) ((sealed bs).map byteV) w) := by
  go_enter Tryz.func248, Tryz.ntmps248
  go_wp2_with (first
    | (go_at_call 58; refine (sum_any a cap bs _ hb (by omega)).mono ?_; rintro e w1 ⟨rfl, hb1⟩)
    | (go_at_call 110; refine (cloneC_any a cap bs _ (hb.below hb1) hz (by omega)).mono ?_; rintro e w2 ⟨a2, cap2, rfl, hown, hb2⟩))
  have hbw := hb1.trans (hb2.mono hb1.size)
  generalize hn : sum bs = n
  have HN := Lib.hid hn; clear hn
  go_loopw [4, 10] (fun v i wr => ∃ (k : Nat) (a' : Option Addr) (cap' : Nat), k ≤ 4 ∧ i = .int .i64 k ∧ v = .slice a' (bs.length + k) cap' ∧ wr.ownsRow w.heap.size 5 1 (.slice a' (bs.length + k) cap') (bs.length + k) ((bs ++ (le n).take k).map byteV) ∧ Below w.heap.size w wr) (fun _ i _ => 4 - (intOf i).toNat)
  case atStart => exact ⟨0, a2, cap2, by omega, rfl, rfl, by simpa using own_base hown hb1.size, hbw⟩
  case round =>
    obtain ⟨k, a', cap', hk, rfl, rfl, hown, hbw⟩ := hrel
    by_cases hlt : k < 4
    · have H0 := U0 n
      have HS := Lib.hid (le_snoc bs n k hlt)
      go_wp2_with (at_builtin; refine wpList_append_row rfl (.tmp 13) (.tmp 19) rfl elemB w.heap.size (.slice a' (bs.length + k) cap') (bs.length + k) _ (by rfl) (hown.alloc _) (some ⟨wr.heap.size, 0, none⟩) 1 1 [.int .u8 (U n / 2 ^ (8 * k) % 256)] (by rfl) (by rfl) (RowAt.new wr #[.int .u8 (U n / 2 ^ (8 * k) % 256)] 5) (by simp [Value.oneCell']) (by unfold maxLen; omega) (by omega) (by simp; have := hbw.size; omega) (by simp) ?_; intro a3 c3 w3 hown3 hg3 hat3)
      have hbw3 : Below w.heap.size w w3 := Below.appended (hbw.alloc (by have := hbw.size; omega) _) (hown.alloc _) hg3 (by simp; have := hbw.size; omega) (Nat.le_refl _)
      rw [HS.out] at hown3
      clear hown hg3 hat3
      go_wp2
      go_roundw
      case rel => exact ⟨k + 1, a3, c3, by omega, by go_num, rfl, hown3, hbw3⟩
      case measure => simp [intOf]; omega
    · obtain rfl : k = 4 := by omega
      go_wp2
      go_ret
      exact ⟨a', cap', rfl, by rw [sealed, HN.out]; exact hown, hbw⟩
/-- Whether bytes are opened, and what they are then. -/
def opens (bs : List UInt8) : Bool := decide (4 ≤ bs.length) && decide (sealed (bs.take (bs.length - 4)) = bs)
def opened (bs : List UInt8) : List UInt8 := if opens bs then bs.take (bs.length - 4) else []
theorem opened_length (bs : List UInt8) : (opened bs).length ≤ bs.length := by
  unfold opened
  split
  · rw [List.length_take]; omega
  · simp
/-- Bytes and whether they are: a new row. -/
def RetRowOk (e : TypeId) (size n : Nat) (xs : List Value) (ok : Bool) (w : World) (en : Ending) (w' : World) : Prop :=
  ∃ a cap, en = .returned (.tuple #[.slice a n cap, .bool ok]) ∧ w'.ownsRow w.heap.size e size (.slice a n cap) n xs ∧ Below w.heap.size w w'
theorem take_map_byte (bs : List UInt8) (k : Nat) : (bs.take k).map byteV = (bs.map byteV).take k := List.map_take
set_option maxHeartbeats 400000 in
theorem open_any (a : Option Addr) (cap : Nat) (bs : List UInt8) (w : World) (hb : CellsB w a bs) (hcap : bs.length ≤ cap) (hl : bs.length ≤ 900000) :
    Calls Tryz.prog 250 #[.slice a bs.length cap] w (RetRowOk 5 1 (opened bs).length ((opened bs).map byteV) (opens bs) w) := by
  by_cases h4 : bs.length < 4
  · have ho : opens bs = false := by simp [opens]; omega
    have HO : Hid (opened bs = [] ∧ opens bs = false) := ⟨by simp [opened, ho], ho⟩
    clear ho
    go_enter Tryz.func250, Tryz.ntmps250
    go_wp2
    go_ret2
    rw [HO.out.1, HO.out.2]
    exact ⟨none, 0, rfl, World.ownsRow_nil _ _ _ _, Below.refl _ _⟩
  · have hb4 : CellsB w a (bs.take (bs.length - 4)) := by
      unfold CellsB at hb ⊢; rw [take_map_byte]; exact hb.take _
    have hlen : (bs.take (bs.length - 4)).length = bs.length - 4 := by rw [List.length_take]; omega
    have hn : ((bs.length : Int) - 4).toNat = bs.length - 4 := by omega
    obtain ⟨b, off, rfl, hbl, _⟩ := hb.at (k := 0) (by omega)
    have hs : ∀ w, CellsB w (some ⟨b, off, none⟩) (bs.take (bs.length - 4)) → Calls Tryz.prog 248 #[.slice (some ⟨b, off, none⟩) (bs.length - 4) cap] w (RetRow 5 1 (sealed (bs.take (bs.length - 4))).length ((sealed (bs.take (bs.length - 4))).map byteV) w) := by
      intro w h
      have := sealB_any (some ⟨b, off, none⟩) cap (bs.take (bs.length - 4)) w h (by simp) (by omega)
      rw [sealed_length]
      rwa [hlen] at this ⊢
    have hcl : ∀ w, CellsB w (some ⟨b, off, none⟩) (bs.take (bs.length - 4)) → Calls Tryz.prog 110 #[.slice (some ⟨b, off, none⟩) (bs.length - 4) cap] w (RetRow 5 1 (bs.length - 4) ((bs.take (bs.length - 4)).map byteV) w) := by
      intro w h
      have := cloneC_any (some ⟨b, off, none⟩) cap (bs.take (bs.length - 4)) w h (by simp) (by omega)
      rwa [hlen] at this
    have hsl : (sealed (bs.take (bs.length - 4))).length ≤ 1000000 := by rw [sealed_length]; omega
    have HS := Lib.hid hs
    have HC := Lib.hid hcl
    have HL := Lib.hid hlen
    clear hs hcl hlen
    by_cases hq : sealed (bs.take (bs.length - 4)) = bs
    · have HO : Hid (opened bs = bs.take (bs.length - 4) ∧ opens bs = true) := by
        have : opens bs = true := by simp [opens, hq]; omega
        exact ⟨by simp [opened, this], this⟩
      have HQ := Lib.hid hq; clear hq
      go_enter Tryz.func250, Tryz.ntmps250
      go_wp2_with (first
        | (go_at_call 248; refine (HS.out _ hb4).mono ?_; rintro e w1 ⟨a1, cap1, rfl, hown1, hb1⟩)
        | (go_at_call 318; refine (equal_any a1 cap1 _ _ cap bs _ (RowAt.of_own hown1) (hb.below hb1) hsl).mono ?_; rw [decide_eq_true HQ.out]; rintro e w2 ⟨rfl, hb2⟩)
        | (go_at_call 110; refine (HC.out _ (hb4.below (hb1.trans (hb2.mono hb1.size)))).mono ?_; rintro e w3 ⟨a3, cap3, rfl, hown3, hb3⟩))
      go_ret2
      have hbw := hb1.trans (hb2.mono hb1.size)
      rw [HO.out.1, HO.out.2, HL.out]
      exact ⟨a3, cap3, rfl, own_base hown3 hbw.size, hbw.trans (hb3.mono hbw.size)⟩
    · have HO : Hid (opened bs = [] ∧ opens bs = false) := by
        have : opens bs = false := by simp [opens, hq]
        exact ⟨by simp [opened, this], this⟩
      have HQ := Lib.hid hq; clear hq
      clear HC HL
      go_enter Tryz.func250, Tryz.ntmps250
      go_wp2_with (first
        | (go_at_call 248; refine (HS.out _ hb4).mono ?_; rintro e w1 ⟨a1, cap1, rfl, hown1, hb1⟩)
        | (go_at_call 318; refine (equal_any a1 cap1 _ _ cap bs _ (RowAt.of_own hown1) (hb.below hb1) hsl).mono ?_; rw [decide_eq_false HQ.out]; rintro e w2 ⟨rfl, hb2⟩))
      go_ret2
      have hbw := hb1.trans (hb2.mono hb1.size)
      rw [HO.out.1, HO.out.2]
      exact ⟨none, 0, rfl, World.ownsRow_nil _ _ _ _, hbw⟩
theorem le_ref (n : BitVec 32) : [Value.int .u8 ((U n).tmod 256 % 256), .int .u8 ((U n).tdiv 256 % 256), .int .u8 ((U n).tdiv 65536 % 256), .int .u8 ((U n).tdiv 16777216 % 256)] = (le n).map byteV := by
  have h0 := U0 n
  rw [Int.tdiv_eq_ediv_of_nonneg h0, Int.tdiv_eq_ediv_of_nonneg h0, Int.tdiv_eq_ediv_of_nonneg h0, Int.tmod_eq_emod_of_nonneg h0, Int.emod_emod]
  have e0 := le_form n 0
  have e1 := le_form n 1
  have e2 := le_form n 2
  have e3 := le_form n 3
  simp only [le, List.map_cons, List.map_nil, ← e0, ← e1, ← e2, ← e3]
  simp
end Go.Proofs.YthjdbmfobmnnlaaGreat

/-
  The plain mathematics of the sum, second part: four bytes of a sum, linear texts, single bytes.
-/
namespace Go.Proofs.YthjdbmfobmnnlaaGreat
open Go.RowKit

/-! ### More of the register -/
theorem not_not (x : BitVec 32) : ~~~(~~~x) = x := BitVec.not_not
theorem not_inj {x y : BitVec 32} (h : ~~~x = ~~~y) : x = y := by rw [← not_not x, h, not_not]
theorem steps_shl (k : Nat) (x y : BitVec 32) (h : (y <<< k) >>> k = y) : steps k (x ^^^ (y <<< k)) = steps k x ^^^ y := by
  rw [steps_xor, steps_shift k (y <<< k) (fun i hi => by rw [BitVec.getLsbD_shiftLeft]; simp [hi]), h]
theorem le_parts (n : BitVec 32) : n = BitVec.ofNat 32 (leAt n 0).toNat ^^^ ((BitVec.ofNat 32 (leAt n 1).toNat) <<< 8) ^^^ ((BitVec.ofNat 32 (leAt n 2).toNat) <<< 16) ^^^ ((BitVec.ofNat 32 (leAt n 3).toNat) <<< 24) := by
  have hb : ∀ k i, (BitVec.ofNat 32 (leAt n k).toNat).getLsbD i = (decide (i < 8) && n.getLsbD (8 * k + i)) := by
    intro k i
    have e : (leAt n k).toNat = n.toNat / 2 ^ (8 * k) % 2 ^ 8 := by
      unfold leAt
      rw [UInt8.toNat_ofNat_of_lt' (Nat.mod_lt _ (by decide))]
    rw [BitVec.getLsbD_ofNat, e, Nat.testBit_mod_two_pow, Nat.testBit_div_two_pow, BitVec.getLsbD]
    by_cases h8 : i < 8
    · have : i < 32 := by omega
      simp [h8, this, Nat.add_comm]
    · simp [h8]
  apply BitVec.eq_of_getLsbD_eq
  intro i hi
  simp only [BitVec.getLsbD_xor, BitVec.getLsbD_shiftLeft, hb]
  by_cases h0 : i < 8
  · have h1 : i < 16 := by omega
    have h2 : i < 24 := by omega
    simp [h0, h1, h2]
  · by_cases h1 : i < 16
    · have h2 : i < 24 := by omega
      have h3 : i - 8 < 8 := by omega
      have h4 : 8 * 1 + (i - 8) = i := by omega
      simp [h0, h1, h2, h3, hi, h4]
    · by_cases h2 : i < 24
      · have h3 : ¬ i - 8 < 8 := by omega
        have h4 : i - 16 < 8 := by omega
        simp [h0, h1, h2, h3, hi, h4]
        congr 1; omega
      · have h3 : ¬ i - 8 < 8 := by omega
        have h4 : ¬ i - 16 < 8 := by omega
        have h5 : i - 24 < 8 := by omega
        simp [h0, h1, h2, h3, hi, h4, h5]
        congr 1; omega
theorem shl_shr {y : Nat} (hy : y < 256) (k : Nat) (hk : k ≤ 24) : ((BitVec.ofNat 32 y) <<< k) >>> k = BitVec.ofNat 32 y := by
  apply BitVec.eq_of_getLsbD_eq
  intro i hi
  rw [BitVec.getLsbD_ushiftRight, BitVec.getLsbD_shiftLeft]
  by_cases h8 : k + i < 32
  · have h1 : ¬ k + i < k := by omega
    have h2 : k + i - k = i := by omega
    simp [h8, h1, h2]
  · have h1 : y.testBit i = false := Nat.testBit_lt_two_pow (Nat.lt_of_lt_of_le hy (by
      have : 2 ^ 8 ≤ 2 ^ i := Nat.pow_le_pow_right (by omega) (by omega)
      simpa using this))
    simp [h8, BitVec.getLsbD_ofNat, h1]
theorem reg_le (r n : BitVec 32) : reg r (le n) = steps 32 (r ^^^ n) := by
  have h1 := shl_shr (leAt n 1).toNat_lt 8 (by omega)
  have h2 := shl_shr (leAt n 2).toNat_lt 16 (by omega)
  have h3 := shl_shr (leAt n 3).toNat_lt 24 (by omega)
  have e : r ^^^ n = r ^^^ BitVec.ofNat 32 (leAt n 0).toNat ^^^ ((BitVec.ofNat 32 (leAt n 1).toNat) <<< 8) ^^^ ((BitVec.ofNat 32 (leAt n 2).toNat) <<< 16) ^^^ ((BitVec.ofNat 32 (leAt n 3).toNat) <<< 24) := by
    conv => lhs; rw [le_parts n]
    simp only [BitVec.xor_assoc]
  rw [e, steps_add 8 24, steps_shl 24 _ _ h3, steps_add 8 16, steps_shl 16 _ _ h2, steps_add 8 8, steps_shl 8 _ _ h1]
  rfl
/-- Bytes with their sum behind them have one and the same sum. -/
theorem sum_sealed (bs : List UInt8) : sum (sealed bs) = 0x2144df1c#32 := by
  unfold sealed
  rw [sum, more, reg_append, reg_le, sum, more]
  have : reg (~~~ 0#32) bs ^^^ ~~~ reg (~~~ 0#32) bs = BitVec.allOnes 32 := by
    generalize reg (~~~ 0#32) bs = r
    rw [← BitVec.xor_allOnes, ← BitVec.xor_assoc, BitVec.xor_self, BitVec.zero_xor]
  rw [this]
  decide +kernel
theorem more_append (bs : List UInt8) (cut : Nat) : more (sum (bs.take cut)) (bs.drop cut) = sum bs := by
  unfold sum
  rw [more, more, not_not, ← reg_append, List.take_append_drop, more]
theorem more_nil (s : BitVec 32) : more s [] = s := by rw [more]; exact not_not s
theorem opens_sealed (bs : List UInt8) : opens (sealed bs) = true ∧ opened (sealed bs) = bs := by
  have h : (sealed bs).take ((sealed bs).length - 4) = bs := by
    rw [sealed_length, Nat.add_sub_cancel]
    unfold sealed
    exact List.take_left
  have ho : opens (sealed bs) = true := by
    unfold opens
    rw [h, sealed_length]
    simp
  exact ⟨ho, by unfold opened; rw [if_pos ho, h]⟩
/-! ### Linear -/
def xor3 (a b c : List UInt8) : List UInt8 := (List.range a.length).map fun i => a.getD i 0 ^^^ b.getD i 0 ^^^ c.getD i 0
theorem xor3_cons (x y z : UInt8) (a b c : List UInt8) : xor3 (x :: a) (y :: b) (z :: c) = (x ^^^ y ^^^ z) :: xor3 a b c := by
  unfold xor3
  rw [List.length_cons, List.range_succ_eq_map, List.map_cons, List.map_map]
  rfl
theorem ofNat_xor8 (x y : UInt8) : BitVec.ofNat 32 (x ^^^ y).toNat = BitVec.ofNat 32 x.toNat ^^^ BitVec.ofNat 32 y.toNat := by
  rw [UInt8.toNat_xor, BitVec.ofNat_xor]
theorem bstep_xor (r s : BitVec 32) (x y : UInt8) : bstep (r ^^^ s) (x ^^^ y) = bstep r x ^^^ bstep s y := by
  unfold bstep
  rw [← steps_xor, ofNat_xor8]
  congr 1
  ac_rfl
theorem reg_xor3 (r s t : BitVec 32) (a b c : List UInt8) (h1 : a.length = b.length) (h2 : a.length = c.length) : reg (r ^^^ s ^^^ t) (xor3 a b c) = reg r a ^^^ reg s b ^^^ reg t c := by
  induction a generalizing r s t b c with
  | nil =>
    cases b with
    | nil => cases c with
      | nil => rfl
      | cons _ _ => cases h2
    | cons _ _ => cases h1
  | cons x a ih =>
    cases b with
    | nil => cases h1
    | cons y b => cases c with
      | nil => cases h2
      | cons z c =>
        rw [xor3_cons]
        show reg (bstep (r ^^^ s ^^^ t) (x ^^^ y ^^^ z)) (xor3 a b c) = reg (bstep r x) a ^^^ reg (bstep s y) b ^^^ reg (bstep t z) c
        rw [bstep_xor, bstep_xor]
        exact ih _ _ _ b c (by simpa using h1) (by simpa using h2)
theorem sum_xor3 (a b c : List UInt8) (h1 : a.length = b.length) (h2 : a.length = c.length) : sum (xor3 a b c) = sum a ^^^ sum b ^^^ sum c := by
  unfold sum more
  have h := reg_xor3 (~~~ 0#32) (~~~ 0#32) (~~~ 0#32) a b c h1 h2
  rw [show (~~~ 0#32 ^^^ ~~~ 0#32 ^^^ ~~~ 0#32 : BitVec 32) = ~~~ 0#32 from by decide] at h
  rw [h]
  generalize reg (~~~ 0#32) a = A
  generalize reg (~~~ 0#32) b = B
  generalize reg (~~~ 0#32) c = C
  rw [← BitVec.xor_allOnes, ← BitVec.xor_allOnes, ← BitVec.xor_allOnes, ← BitVec.xor_allOnes]
  have : ∀ m : BitVec 32, A ^^^ B ^^^ C ^^^ m = A ^^^ m ^^^ (B ^^^ m) ^^^ (C ^^^ m) := by
    intro m
    have h1 : A ^^^ m ^^^ (B ^^^ m) ^^^ (C ^^^ m) = A ^^^ B ^^^ C ^^^ m ^^^ (m ^^^ m) := by
      ac_rfl
    rw [h1, BitVec.xor_self, BitVec.xor_zero]
  exact this _
/-! ### Nothing is lost -/
theorem bstep_inj {r s : BitVec 32} {x y : UInt8} (h : bstep r x = bstep s y) : r ^^^ BitVec.ofNat 32 x.toNat = s ^^^ BitVec.ofNat 32 y.toNat := steps_inj h
theorem reg_inj {r s : BitVec 32} {bs : List UInt8} (h : reg r bs = reg s bs) : r = s := by
  induction bs generalizing r s with
  | nil => exact h
  | cons b bs ih =>
    have := bstep_inj (ih (r := bstep r b) (s := bstep s b) h)
    have h2 := congrArg (fun z => z ^^^ BitVec.ofNat 32 b.toNat) this
    simpa only [xor_cancel] using h2
theorem ofNat8_inj {x y : UInt8} (h : BitVec.ofNat 32 x.toNat = BitVec.ofNat 32 y.toNat) : x = y := by
  have h2 := congrArg BitVec.toNat h
  have h3 := x.toNat_lt
  have h4 := y.toNat_lt
  rw [BitVec.toNat_ofNat, BitVec.toNat_ofNat, Nat.mod_eq_of_lt (by omega), Nat.mod_eq_of_lt (by omega)] at h2
  exact UInt8.toNat_inj.1 h2
theorem more_one {s : BitVec 32} {x y : UInt8} (h : more s [x] = more s [y]) : x = y := by
  have h1 := bstep_inj (not_inj h)
  have h2 := congrArg (fun z => (~~~ s) ^^^ z) h1
  simp only [← BitVec.xor_assoc, BitVec.xor_self, BitVec.zero_xor] at h2
  exact ofNat8_inj h2
theorem sum_set {bs : List UInt8} {k : Nat} (hk : k < bs.length) {x : UInt8} (h : sum (bs.set k x) = sum bs) : x = bs.getD k 0 := by
  have e1 : bs.set k x = bs.take k ++ x :: bs.drop (k + 1) := List.set_eq_take_append_cons_drop.trans (by rw [if_pos hk])
  have e2 : bs = bs.take k ++ bs.getD k 0 :: bs.drop (k + 1) := by
    rw [List.getD_eq_getElem?_getD, List.getElem?_eq_getElem hk, Option.getD_some, List.getElem_cons_drop, List.take_append_drop]
  rw [e1] at h
  conv at h => rhs; rw [e2]
  have h1 := not_inj h
  rw [reg_append, reg_append] at h1
  have h2 := bstep_inj (reg_inj (r := bstep _ x) (s := bstep _ (bs.getD k 0)) h1)
  have h3 := congrArg (fun z => reg (~~~ 0#32) (bs.take k) ^^^ z) h2
  simp only [← BitVec.xor_assoc, BitVec.xor_self, BitVec.zero_xor] at h3
  exact ofNat8_inj h3
end Go.Proofs.YthjdbmfobmnnlaaGreat

/-
  The plain mathematics of the sum, third part: bit by bit; bursts.
-/
namespace Go.Proofs.YthjdbmfobmnnlaaGreat
open Go.RowKit

/-! ### Bit by bit -/
def bit1 (b : Bool) : BitVec 32 := if b then 1#32 else 0#32
/-- The register behind n bits. -/
def bser (r : BitVec 32) (f : Nat → Bool) : Nat → BitVec 32
  | 0 => r
  | n + 1 => step (bser r f n ^^^ bit1 (f n))
/-- The first n bits as a word. -/
def word (f : Nat → Bool) : Nat → BitVec 32
  | 0 => 0#32
  | n + 1 => word f n ^^^ ((bit1 (f n)) <<< n)
theorem bit1_shl (b : Bool) (n : Nat) (hn : n < 32) : ((bit1 b) <<< n) >>> n = bit1 b := by
  cases b
  · simp [bit1]
  · have : n = n % 32 := by omega
    have h : ∀ n : Fin 32, ((1#32) <<< n.val) >>> n.val = 1#32 := by decide
    exact h ⟨n, hn⟩
theorem bser_word (r : BitVec 32) (f : Nat → Bool) (n : Nat) (hn : n ≤ 32) : bser r f n = steps n (r ^^^ word f n) := by
  induction n with
  | zero => rw [word, BitVec.xor_zero]; rfl
  | succ n ih =>
    rw [bser, ih (by omega), word, steps, ← BitVec.xor_assoc, steps_shl n _ _ (bit1_shl _ _ (by omega))]
theorem bser_add (r : BitVec 32) (f : Nat → Bool) (m n : Nat) : bser r f (m + n) = bser (bser r f m) (fun i => f (m + i)) n := by
  induction n with
  | zero => rfl
  | succ n ih => rw [← Nat.add_assoc, bser, ih]; rfl
theorem bser_congr {r : BitVec 32} {f g : Nat → Bool} {n : Nat} (h : ∀ i, i < n → f i = g i) : bser r f n = bser r g n := by
  induction n with
  | zero => rfl
  | succ n ih => rw [bser, bser, ih (fun i hi => h i (by omega)), h n (by omega)]
theorem bser_none {r : BitVec 32} {f : Nat → Bool} {n : Nat} (h : ∀ i, i < n → f i = false) : bser r f n = steps n r := by
  induction n with
  | zero => rfl
  | succ n ih => rw [bser, ih (fun i hi => h i (by omega)), h n (by omega), steps, bit1]; simp
theorem word_bit (f : Nat → Bool) (n i : Nat) (hn : n ≤ 32) : (word f n).getLsbD i = (decide (i < n) && f i) := by
  induction n with
  | zero => simp [word]
  | succ n ih =>
    rw [word, BitVec.getLsbD_xor, ih (by omega), BitVec.getLsbD_shiftLeft]
    by_cases h1 : i < n
    · have h2 : i < n + 1 := by omega
      simp [h1, h2]
    · by_cases h2 : i = n
      · subst h2
        have h3 : i < 32 := by omega
        cases hf : f i <;> simp [bit1, h3]
      · have h3 : ¬ i < n + 1 := by omega
        have h4 : i - n ≠ 0 := by omega
        have h5 : (bit1 (f n)).getLsbD (i - n) = false := by
          cases f n
          · simp [bit1]
          · simp only [bit1, if_true]
            rw [BitVec.getLsbD_one]; simp [h4]
        simp [h1, h3, h5]
/-- Bit p of bytes. -/
def bitAt (bs : List UInt8) (p : Nat) : Bool := (bs.getD (p / 8) 0).toNat.testBit (p % 8)
theorem word8 (b : UInt8) (f : Nat → Bool) (h : ∀ i, i < 8 → f i = b.toNat.testBit i) : word f 8 = BitVec.ofNat 32 b.toNat := by
  apply BitVec.eq_of_getLsbD_eq
  intro i hi
  rw [word_bit f 8 i (by omega), BitVec.getLsbD_ofNat]
  by_cases h8 : i < 8
  · rw [h i h8]; simp [h8, hi]
  · have h1 : b.toNat.testBit i = false := Nat.testBit_lt_two_pow (Nat.lt_of_lt_of_le b.toNat_lt (by
      have : 2 ^ 8 ≤ 2 ^ i := Nat.pow_le_pow_right (by omega) (by omega)
      simpa using this))
    rw [h1]; simp [h8]
theorem reg_bser (r : BitVec 32) (bs : List UInt8) : reg r bs = bser r (bitAt bs) (8 * bs.length) := by
  induction bs generalizing r with
  | nil => rfl
  | cons b bs ih =>
    have e : 8 * (b :: bs).length = 8 + 8 * bs.length := by rw [List.length_cons]; omega
    rw [e, bser_add, bser_word _ _ 8 (by omega), word8 b]
    · show reg (bstep r b) bs = _
      rw [ih]
      apply bser_congr
      intro i _
      have h1 : (8 + i) / 8 = i / 8 + 1 := by omega
      have h2 : (8 + i) % 8 = i % 8 := by omega
      simp [bitAt, h1, h2]
    · intro i hi
      have h1 : i / 8 = 0 := by omega
      have h2 : i % 8 = i := by omega
      simp [bitAt, h1, h2]
def xor2 (a b : List UInt8) : List UInt8 := List.zipWith (fun x y => x ^^^ y) a b
theorem reg_xor2 (r s : BitVec 32) (a b : List UInt8) (h : a.length = b.length) : reg (r ^^^ s) (xor2 a b) = reg r a ^^^ reg s b := by
  induction a generalizing r s b with
  | nil => cases b with
    | nil => rfl
    | cons _ _ => cases h
  | cons x a ih => cases b with
    | nil => cases h
    | cons y b =>
      show reg (bstep (r ^^^ s) (x ^^^ y)) (xor2 a b) = reg (bstep r x) a ^^^ reg (bstep s y) b
      rw [bstep_xor]
      exact ih _ _ b (by simpa using h)
theorem bitAt_xor2 (a b : List UInt8) (h : a.length = b.length) (p : Nat) : bitAt (xor2 a b) p = (bitAt a p ^^ bitAt b p) := by
  unfold bitAt xor2
  rw [List.getD_eq_getElem?_getD, List.getD_eq_getElem?_getD, List.getD_eq_getElem?_getD, List.getElem?_zipWith]
  by_cases hp : p / 8 < a.length
  · rw [List.getElem?_eq_getElem hp, List.getElem?_eq_getElem (by omega)]
    simp [UInt8.toNat_xor, Nat.testBit_xor]
  · rw [List.getElem?_eq_none (by omega), List.getElem?_eq_none (by omega)]
    simp
/-- A burst: bits within 32 in a row, the first of them turned: the register is another one. -/
theorem burst_reg (r : BitVec 32) (s t : List UInt8) (hl : t.length = s.length) (at0 : Nat) (mask : BitVec 32) (hm : mask.getLsbD 0 = true) (ha : at0 < 8 * s.length)
    (hbits : ∀ p, p < 8 * s.length → bitAt t p = (bitAt s p ^^ (decide (at0 ≤ p) && mask.getLsbD (p - at0)))) : reg r t ≠ reg r s := by
  intro he
  have h0 : reg 0#32 (xor2 t s) = 0#32 := by
    have := reg_xor2 r r t s hl
    rw [BitVec.xor_self] at this
    rw [this, he, BitVec.xor_self]
  have hx : (xor2 t s).length = s.length := by unfold xor2; rw [List.length_zipWith, hl, Nat.min_self]
  rw [reg_bser, hx] at h0
  have hf : ∀ p, p < 8 * s.length → bitAt (xor2 t s) p = (decide (at0 ≤ p) && mask.getLsbD (p - at0)) := fun p hp => by
    rw [bitAt_xor2 t s hl, hbits p hp]
    cases bitAt s p <;> simp
  rw [bser_congr hf] at h0
  obtain ⟨n, hn⟩ : ∃ n, 8 * s.length = at0 + (n + 1) := ⟨8 * s.length - at0 - 1, by omega⟩
  rw [hn, bser_add, bser_none (n := at0) (fun i hi => by simp; omega), steps_zero] at h0
  have hg : ∀ i, (fun i => decide (at0 ≤ at0 + i) && mask.getLsbD (at0 + i - at0)) i = mask.getLsbD i := fun i => by simp
  rw [bser_congr (fun i _ => hg i)] at h0
  have key : ∀ k, k < 32 → bser 0#32 (fun i => mask.getLsbD i) (k + 1) ≠ 0#32 := fun k hk h => by
    rw [bser_word _ _ _ (by omega), BitVec.zero_xor] at h
    have h2 := word_bit (fun i => mask.getLsbD i) (k + 1) 0 (by omega)
    rw [hm, steps_eq_zero h] at h2
    simp at h2
  by_cases h32 : n + 1 ≤ 32
  · exact key n (by omega) h0
  · obtain ⟨m, hm2⟩ : ∃ m, n + 1 = 32 + m := ⟨n + 1 - 32, by omega⟩
    rw [hm2, bser_add, bser_none (n := m) (fun i _ => BitVec.getLsbD_of_ge _ _ (by omega))] at h0
    exact key 31 (by omega) (steps_eq_zero h0)
theorem not_opens {s t : List UInt8} (hs : ∃ bs, s = sealed bs) (h : reg (~~~ 0#32) t ≠ reg (~~~ 0#32) s) : opens t = false := by
  obtain ⟨bs, rfl⟩ := hs
  by_cases ho : opens t = true
  · exfalso
    unfold opens at ho
    simp only [Bool.and_eq_true, decide_eq_true_eq] at ho
    have h1 := sum_sealed (t.take (t.length - 4))
    rw [ho.2] at h1
    have h2 := sum_sealed bs
    exact h (not_inj (h1.trans h2.symm))
  · simpa using ho
theorem map_set_byte (bs : List UInt8) (k : Nat) (x : UInt8) : (bs.map byteV).set k (.int .u8 (x.toNat : Int)) = (bs.set k x).map byteV := by
  rw [List.map_set]; rfl
theorem u8_xor_bytes (x y : UInt8) : bits .xor .u8 (x.toNat : Int) (y.toNat : Int) = ((x ^^^ y).toNat : Int) := by
  rw [u8_xor_nat _ _ x.toNat_lt y.toNat_lt, UInt8.toNat_xor]
/-- Bytes of which the first bits within 32 from one on are turned, as a mask has them. -/
def turnedAt (bs : List UInt8) (at0 : Nat) (mask : BitVec 32) : Nat → List UInt8
  | 0 => bs
  | i + 1 => let out := turnedAt bs at0 mask i
    if mask.getLsbD i && decide (at0 + i < 8 * out.length) then out.set ((at0 + i) / 8) (out.getD ((at0 + i) / 8) 0 ^^^ UInt8.ofNat (2 ^ ((at0 + i) % 8))) else out
theorem turnedAt_length (bs : List UInt8) (at0 : Nat) (mask : BitVec 32) (i : Nat) : (turnedAt bs at0 mask i).length = bs.length := by
  induction i with
  | zero => rfl
  | succ i ih =>
    unfold turnedAt
    dsimp only
    split
    · rw [List.length_set, ih]
    · exact ih
theorem flip_form (x : UInt8) (m : Nat) : bits .xor .u8 (x.toNat : Int) (2 ^ m % 256) = ((x ^^^ UInt8.ofNat (2 ^ m)).toNat : Int) := by
  have h : (2 ^ m % 256 : Int) = ((UInt8.ofNat (2 ^ m)).toNat : Int) := by
    rw [UInt8.toNat_ofNat', Int.natCast_emod, Int.natCast_pow]; rfl
  rw [h, u8_xor_bytes]
theorem turnedAt_yes {bs : List UInt8} {at0 : Nat} {mask : BitVec 32} {k : Nat} (h1 : mask.getLsbD k = true) (h2 : at0 + k < 8 * bs.length) :
    turnedAt bs at0 mask (k + 1) = (turnedAt bs at0 mask k).set ((at0 + k) / 8) ((turnedAt bs at0 mask k).getD ((at0 + k) / 8) 0 ^^^ UInt8.ofNat (2 ^ ((at0 + k) % 8))) := by
  conv => lhs; unfold turnedAt
  dsimp only
  rw [turnedAt_length, h1, decide_eq_true h2]; rfl
theorem turnedAt_no {bs : List UInt8} {at0 : Nat} {mask : BitVec 32} {k : Nat} (h : mask.getLsbD k = false ∨ ¬ at0 + k < 8 * bs.length) :
    turnedAt bs at0 mask (k + 1) = turnedAt bs at0 mask k := by
  conv => lhs; unfold turnedAt
  dsimp only
  rw [turnedAt_length]
  rcases h with h | h
  · rw [h]; rfl
  · rw [decide_eq_false h, Bool.and_false]; rfl
theorem turnedAt_row {bs : List UInt8} {at0 : Nat} {mask : BitVec 32} {k : Nat} (h1 : mask.getLsbD k = true) (h2 : at0 + k < 8 * bs.length) :
    ((turnedAt bs at0 mask k).map byteV).set ((at0 + k) / 8) (.int .u8 (bits .xor .u8 (((turnedAt bs at0 mask k).getD ((at0 + k) / 8) 0).toNat : Int) (2 ^ ((at0 + k) % 8) % 256))) = (turnedAt bs at0 mask (k + 1)).map byteV := by
  rw [flip_form, turnedAt_yes h1 h2, map_set_byte]
theorem mask_test (mask : BitVec 32) (i : Nat) : ((U mask / 2 ^ i).tmod 2 == 1) = mask.getLsbD i := by
  rw [Int.tmod_eq_emod_of_nonneg (Int.ediv_nonneg (U0 mask) (Int.pow_nonneg (by omega)))]
  rw [BitVec.getLsbD, Nat.testBit_eq_decide_div_mod_eq]
  unfold U
  have : ((mask.toNat : Int) / 2 ^ i % 2) = ((mask.toNat / 2 ^ i % 2 : Nat) : Int) := by rw [Int.natCast_emod, Int.natCast_ediv, Int.natCast_pow]; rfl
  rw [this]
  by_cases h : mask.toNat / 2 ^ i % 2 = 1
  · simp [h]
  · have : mask.toNat / 2 ^ i % 2 = 0 := by omega
    simp [this]
theorem bitAt_set (bs : List UInt8) (j m p : Nat) (hj : j < bs.length) (hm : m < 8) : bitAt (bs.set j (bs.getD j 0 ^^^ UInt8.ofNat (2 ^ m))) p = (bitAt bs p ^^ decide (p = 8 * j + m)) := by
  unfold bitAt
  by_cases h : p / 8 = j
  · subst h
    rw [List.getD_eq_getElem?_getD, List.getElem?_set_self hj, Option.getD_some, UInt8.toNat_xor, Nat.testBit_xor]
    congr 1
    have h1 : (UInt8.ofNat (2 ^ m)).toNat = 2 ^ m := UInt8.toNat_ofNat_of_lt' (by
      have : 2 ^ m < 2 ^ 8 := Nat.pow_lt_pow_right (by omega) hm
      simpa using this)
    rw [h1, Nat.testBit_two_pow]
    rw [Bool.eq_iff_iff]; simp; omega
  · rw [List.getD_eq_getElem?_getD, List.getElem?_set_ne (by omega), ← List.getD_eq_getElem?_getD]
    have : ¬ p = 8 * j + m := by omega
    simp [this]
theorem bitAt_turned (bs : List UInt8) (at0 : Nat) (mask : BitVec 32) (k p : Nat) (hp : p < 8 * bs.length) : bitAt (turnedAt bs at0 mask k) p = (bitAt bs p ^^ (decide (at0 ≤ p ∧ p < at0 + k) && mask.getLsbD (p - at0))) := by
  induction k with
  | zero =>
    have : ¬ (at0 ≤ p ∧ p < at0 + 0) := by omega
    rw [turnedAt, decide_eq_false this, Bool.false_and, Bool.xor_false]
  | succ k ih =>
    by_cases h1 : mask.getLsbD k = true
    · by_cases h2 : at0 + k < 8 * bs.length
      · rw [turnedAt_yes h1 h2, bitAt_set _ _ _ _ (by rw [turnedAt_length]; omega) (by omega), ih]
        by_cases h3 : p = at0 + k
        · subst h3
          have e1 : at0 + k = 8 * ((at0 + k) / 8) + (at0 + k) % 8 := by omega
          have e2 : at0 + k - at0 = k := by omega
          rw [decide_eq_true e1, e2, h1]
          simp
        · have e1 : ¬ p = 8 * ((at0 + k) / 8) + (at0 + k) % 8 := by omega
          have e2 : (at0 ≤ p ∧ p < at0 + k) ↔ (at0 ≤ p ∧ p < at0 + (k + 1)) := by omega
          rw [decide_eq_false e1, Bool.xor_false]
          simp only [e2]
      · rw [turnedAt_no (.inr h2), ih]
        have e2 : (at0 ≤ p ∧ p < at0 + k) ↔ (at0 ≤ p ∧ p < at0 + (k + 1)) := by omega
        simp only [e2]
    · have h1 : mask.getLsbD k = false := by simpa using h1
      rw [turnedAt_no (.inl h1), ih]
      by_cases h3 : p = at0 + k
      · subst h3
        have e2 : at0 + k - at0 = k := by omega
        rw [e2, h1]
        simp
      · have e2 : (at0 ≤ p ∧ p < at0 + k) ↔ (at0 ≤ p ∧ p < at0 + (k + 1)) := by omega
        simp only [e2]
theorem burst_opens (bs : List UInt8) (at0 : Nat) (mask : BitVec 32) (hm : mask.getLsbD 0 = true) (ha : at0 < 8 * (sealed bs).length) : opens (turnedAt (sealed bs) at0 mask 32) = false := by
  refine not_opens ⟨bs, rfl⟩ (burst_reg _ _ _ (turnedAt_length _ _ _ _) at0 mask hm ha fun p hp => ?_)
  rw [bitAt_turned _ _ _ _ _ hp]
  congr 1
  by_cases h : p < at0 + 32
  · simp [h]
  · have : mask.getLsbD (p - at0) = false := BitVec.getLsbD_of_ge _ _ (by omega)
    simp [this]
end Go.Proofs.YthjdbmfobmnnlaaGreat

/-
  The plain mathematics of frames: what is put, what is got, what is run.
-/
namespace Go.Proofs.YthjdbmfobmnnlaaGreat
open Go.RowKit

/-! ### Frames -/
/-- A frame: its kind, its body. -/
abbrev Fr := Int × List UInt8
def headOf (k n : Nat) : List UInt8 := [83, b8 k, b8 (n / 256), b8 (n % 256)]
/-- The error of a frame that is put: 0, 1 (ErrArg), 7 (ErrFull). -/
def putE (f : Fr) : Int := if f.1 < 0 ∨ 255 < f.1 then 1 else if 4096 < f.2.length then 7 else 0
def putB (f : Fr) : List UInt8 := if putE f = 0 then sealed (headOf f.1.toNat f.2.length ++ f.2) else []
/-- How many bytes the frame has that bytes begin with, and the error. -/
def lenOf (bs : List UInt8) : Nat := (bs.getD 2 0).toNat * 256 + (bs.getD 3 0).toNat
def sizeE (bs : List UInt8) : Int :=
  if bs.length = 0 then 3 else if (bs.getD 0 0).toNat ≠ 83 then 2 else if bs.length < 4 then 3 else if 4096 < lenOf bs then 7 else if bs.length < lenOf bs + 8 then 3 else 0
def sizeN (bs : List UInt8) : Nat := if sizeE bs = 0 then lenOf bs + 8 else 0
def getE (bs : List UInt8) : Int := if sizeE bs = 0 then (if opens (bs.take (sizeN bs)) then 0 else 4) else sizeE bs
def getN (bs : List UInt8) : Nat := if getE bs = 0 then sizeN bs else 0
def getF (bs : List UInt8) : Fr := if getE bs = 0 then (((bs.getD 1 0).toNat : Int), ((bs.take (sizeN bs)).take (sizeN bs - 4)).drop 4) else (0, [])
/-- The frames that bytes begin with: with so much fuel. -/
def runs : Nat → List UInt8 → List Fr × Nat × Int
  | 0, _ => ([], 0, 0)
  | k + 1, bs => if bs.length = 0 then ([], 0, 0) else if getE bs = 0 then let r := runs k (bs.drop (getN bs)); (getF bs :: r.1, getN bs + r.2.1, r.2.2) else ([], 0, getE bs)
def run (bs : List UInt8) : List Fr × Nat × Int := runs bs.length bs
theorem sizeN_pos {bs : List UInt8} (h : sizeE bs = 0) : 8 ≤ sizeN bs ∧ sizeN bs ≤ bs.length ∧ sizeN bs ≤ 4104 ∧ sizeN bs = lenOf bs + 8 ∧ (bs.getD 0 0).toNat = 83 := by
  have h1 : sizeN bs = lenOf bs + 8 := by unfold sizeN; rw [if_pos h]
  unfold sizeE at h
  split at h
  · omega
  · split at h
    · omega
    · split at h
      · omega
      · split at h
        · omega
        · split at h
          · omega
          · rename_i h2 _ _ _
            have h3 := Classical.not_not.1 h2
            omega
theorem getE_ok {bs : List UInt8} (h : getE bs = 0) : sizeE bs = 0 ∧ opens (bs.take (sizeN bs)) = true := by
  unfold getE at h
  split at h
  · rename_i h1
    split at h
    · rename_i h2; exact ⟨h1, h2⟩
    · omega
  · rename_i h1; exact absurd h h1
theorem getN_pos {bs : List UInt8} (h : getE bs = 0) : 8 ≤ getN bs ∧ getN bs ≤ bs.length := by
  have h1 := (getE_ok h).1
  have := sizeN_pos h1
  unfold getN
  rw [if_pos h]
  omega
theorem runs_fuel : ∀ (k m : Nat) (bs : List UInt8), bs.length ≤ k → bs.length ≤ m → runs k bs = runs m bs := by
  intro k
  induction k with
  | zero =>
    intro m bs hk _
    have h0 : bs.length = 0 := by omega
    cases m with
    | zero => rfl
    | succ m => simp [runs, h0]
  | succ k ih =>
    intro m bs hk hm
    cases m with
    | zero =>
      have h0 : bs.length = 0 := by omega
      simp [runs, h0]
    | succ m =>
      by_cases h0 : bs.length = 0
      · simp [runs, h0]
      · by_cases he : getE bs = 0
        · have hp := getN_pos he
          simp only [runs, if_neg h0, if_pos he]
          rw [ih m (bs.drop (getN bs)) (by rw [List.length_drop]; omega) (by rw [List.length_drop]; omega)]
        · simp only [runs, if_neg h0, if_neg he]
theorem run_nil {bs : List UInt8} (h : bs.length = 0) : run bs = ([], 0, 0) := by
  unfold run; rw [h]; rfl
theorem run_ok {bs : List UInt8} (h : getE bs = 0) : run bs = (getF bs :: (run (bs.drop (getN bs))).1, getN bs + (run (bs.drop (getN bs))).2.1, (run (bs.drop (getN bs))).2.2) := by
  have hp := getN_pos h
  obtain ⟨k, hk⟩ : ∃ k, bs.length = k + 1 := ⟨bs.length - 1, by omega⟩
  unfold run
  rw [hk]
  simp only [runs, if_neg (show ¬ bs.length = 0 by omega), if_pos h]
  rw [runs_fuel k (bs.drop (getN bs)).length _ (by rw [List.length_drop]; omega) (Nat.le_refl _)]
theorem run_err {bs : List UInt8} (h0 : bs.length ≠ 0) (h : getE bs ≠ 0) : run bs = ([], 0, getE bs) := by
  obtain ⟨k, hk⟩ : ∃ k, bs.length = k + 1 := ⟨bs.length - 1, by omega⟩
  unfold run
  rw [hk]
  simp only [runs, if_neg h0, if_neg h]
/-! ### What was put is got -/
theorem headOf_length (k n : Nat) : (headOf k n).length = 4 := rfl
theorem putE_zero {f : Fr} (h : putE f = 0) : 0 ≤ f.1 ∧ f.1 ≤ 255 ∧ f.2.length ≤ 4096 := by
  unfold putE at h
  split at h
  · omega
  · split at h
    · omega
    · omega
theorem putB_eq {f : Fr} (h : putE f = 0) : putB f = sealed (headOf f.1.toNat f.2.length ++ f.2) := by unfold putB; rw [if_pos h]
theorem putB_length {f : Fr} (h : putE f = 0) : (putB f).length = f.2.length + 8 := by
  rw [putB_eq h, sealed_length, List.length_append, headOf_length]; omega
theorem putB_none {f : Fr} (h : putE f ≠ 0) : putB f = [] := by unfold putB; rw [if_neg h]
theorem getD_append_lt (a b : List UInt8) (i : Nat) (h : i < a.length) : (a ++ b).getD i 0 = a.getD i 0 := by
  rw [List.getD_eq_getElem?_getD, List.getD_eq_getElem?_getD, List.getElem?_append_left h]
theorem putB_head {f : Fr} (h : putE f = 0) (more : List UInt8) (i : Nat) (hi : i < 4) : (putB f ++ more).getD i 0 = (headOf f.1.toNat f.2.length).getD i 0 := by
  have h1 := putB_length h
  rw [getD_append_lt _ _ _ (by omega), putB_eq h]
  unfold sealed
  rw [List.append_assoc, getD_append_lt _ _ _ (by rw [headOf_length]; exact hi)]
theorem putB_lenOf {f : Fr} (h : putE f = 0) (more : List UInt8) : lenOf (putB f ++ more) = f.2.length := by
  have hp := putE_zero h
  unfold lenOf
  rw [putB_head h more 2 (by omega), putB_head h more 3 (by omega)]
  show (b8 (f.2.length / 256)).toNat * 256 + (b8 (f.2.length % 256)).toNat = f.2.length
  rw [b8_toNat _ (by omega), b8_toNat _ (by omega)]
  omega
theorem putB_first {f : Fr} (h : putE f = 0) (more : List UInt8) : ((putB f ++ more).getD 0 0).toNat = 83 := by
  rw [putB_head h more 0 (by omega)]; rfl
theorem putB_size {f : Fr} (h : putE f = 0) (more : List UInt8) : sizeE (putB f ++ more) = 0 ∧ sizeN (putB f ++ more) = (putB f).length := by
  have h1 := putB_length h
  have h2 := putB_lenOf h more
  have h3 := putB_first h more
  have h4 : (putB f ++ more).length = (putB f).length + more.length := List.length_append
  have hp := putE_zero h
  have he : sizeE (putB f ++ more) = 0 := by
    unfold sizeE
    rw [if_neg (by omega), if_neg (by omega), if_neg (by omega), if_neg (by omega), if_neg (by omega)]
  exact ⟨he, by unfold sizeN; rw [if_pos he, h2, h1]⟩
theorem putB_get {f : Fr} (h : putE f = 0) (more : List UInt8) : getE (putB f ++ more) = 0 ∧ getN (putB f ++ more) = (putB f).length ∧ getF (putB f ++ more) = f := by
  obtain ⟨h1, h2⟩ := putB_size h more
  have h3 : (putB f ++ more).take (sizeN (putB f ++ more)) = putB f := by rw [h2, List.take_left]
  have ho : opens (putB f) = true ∧ opened (putB f) = headOf f.1.toNat f.2.length ++ f.2 := by rw [putB_eq h]; exact opens_sealed _
  have he : getE (putB f ++ more) = 0 := by
    unfold getE
    rw [if_pos h1, h3, if_pos ho.1]
  refine ⟨he, by unfold getN; rw [if_pos he, h2], ?_⟩
  unfold getF
  rw [if_pos he, h3, putB_head h more 1 (by omega), h2]
  have h4 : (putB f).take ((putB f).length - 4) = headOf f.1.toNat f.2.length ++ f.2 := by
    have := ho.2
    unfold opened at this
    rwa [if_pos ho.1] at this
  rw [h4]
  have h5 : (headOf f.1.toNat f.2.length ++ f.2).drop 4 = f.2 := List.drop_left' rfl
  have hp := putE_zero h
  have h6 : (((headOf f.1.toNat f.2.length).getD 1 0).toNat : Int) = f.1 := by
    show ((b8 f.1.toNat).toNat : Int) = f.1
    rw [b8_toNat _ (by omega)]; omega
  rw [h5, h6]
/-- What is got is put as just these bytes. -/
theorem get_put {bs : List UInt8} (h : getE bs = 0) : putE (getF bs) = 0 ∧ putB (getF bs) = bs.take (getN bs) := by
  obtain ⟨h1, h2⟩ := getE_ok h
  have hs := sizeN_pos h1
  have hb : (getF bs).2.length = lenOf bs := by
    unfold getF
    rw [if_pos h]
    show (((bs.take (sizeN bs)).take (sizeN bs - 4)).drop 4).length = _
    rw [List.length_drop, List.length_take, List.length_take]; omega
  have hk : (getF bs).1 = ((bs.getD 1 0).toNat : Int) := by unfold getF; rw [if_pos h]
  have hk2 := (bs.getD 1 0).toNat_lt
  have he : putE (getF bs) = 0 := by
    unfold putE
    rw [hk, if_neg (by omega), if_neg (by omega)]
  refine ⟨he, ?_⟩
  rw [putB_eq he]
  have hn : getN bs = sizeN bs := by unfold getN; rw [if_pos h]
  rw [hn]
  have ho := h2
  unfold opens at ho
  simp only [Bool.and_eq_true, decide_eq_true_eq] at ho
  have hl : (bs.take (sizeN bs)).length = sizeN bs := by rw [List.length_take]; omega
  rw [hl] at ho
  have h3 := ho.2
  rw [← h3]
  congr 1
  rw [hk, hb]
  have hbody : (getF bs).2 = ((bs.take (sizeN bs)).take (sizeN bs - 4)).drop 4 := by unfold getF; rw [if_pos h]
  rw [hbody]
  have h4 : headOf ((bs.getD 1 0).toNat : Int).toNat (lenOf bs) = ((bs.take (sizeN bs)).take (sizeN bs - 4)).take 4 := by
    rw [List.take_take, List.take_take, show min (min 4 (sizeN bs - 4)) (sizeN bs) = 4 by omega]
    have e : ∀ i, i < bs.length → bs[i]? = some (bs.getD i 0) := fun i hi => by
      rw [List.getD_eq_getElem?_getD, List.getElem?_eq_getElem hi]; rfl
    have hq : bs.take 4 = [bs.getD 0 0, bs.getD 1 0, bs.getD 2 0, bs.getD 3 0] := by
      apply List.ext_getElem?
      intro i
      rw [List.getElem?_take]
      by_cases hi : i < 4
      · rw [if_pos hi, e i (by omega)]
        have : i = 0 ∨ i = 1 ∨ i = 2 ∨ i = 3 := by omega
        rcases this with rfl | rfl | rfl | rfl <;> rfl
      · rw [if_neg hi, List.getElem?_eq_none]
        show 4 ≤ i
        omega
    rw [hq]
    have g0 : bs.getD 0 0 = 83 := UInt8.toNat_inj.1 hs.2.2.2.2
    have g1 : b8 (bs.getD 1 0).toNat = bs.getD 1 0 := UInt8.toNat_inj.1 (b8_toNat _ hk2)
    have hl2 := (bs.getD 2 0).toNat_lt
    have hl3 := (bs.getD 3 0).toNat_lt
    have g2 : b8 (lenOf bs / 256) = bs.getD 2 0 := UInt8.toNat_inj.1 (by
      have : lenOf bs / 256 = (bs.getD 2 0).toNat := by unfold lenOf; omega
      rw [this]; exact b8_toNat _ hl2)
    have g3 : b8 (lenOf bs % 256) = bs.getD 3 0 := UInt8.toNat_inj.1 (by
      have : lenOf bs % 256 = (bs.getD 3 0).toNat := by unfold lenOf; omega
      rw [this]; exact b8_toNat _ hl3)
    unfold headOf
    rw [Int.toNat_natCast, g0, g1, g2, g3]
  rw [h4, List.take_append_drop]
/-! ### Frames one behind the other -/
def puts (l : List Fr) : List UInt8 := l.flatMap putB
theorem puts_cons (f : Fr) (l : List Fr) : puts (f :: l) = putB f ++ puts l := rfl
theorem run_puts (l : List Fr) (h : ∀ f ∈ l, putE f = 0) (more : List UInt8) : run (puts l ++ more) = (l ++ (run more).1, (puts l).length + (run more).2.1, (run more).2.2) := by
  induction l with
  | nil => simp [puts]
  | cons f l ih =>
    have hf := h f (by simp)
    obtain ⟨g1, g2, g3⟩ := putB_get hf (puts l ++ more)
    rw [puts_cons, List.append_assoc, run_ok g1, g2, g3, List.drop_left, ih (fun g hg => h g (by simp [hg]))]
    simp [Nat.add_assoc]
/-- A part of a frame lacks some. -/
theorem cut_more {f : Fr} (h : putE f = 0) (k : Nat) (h0 : 0 < k) (hk : k < (putB f).length) : getE ((putB f).take k) = 3 := by
  have h1 := putB_length h
  have hl : ((putB f).take k).length = k := by rw [List.length_take]; omega
  have hg : ∀ i, i < k → ((putB f).take k).getD i 0 = (putB f ++ []).getD i 0 := fun i hi => by
    rw [List.append_nil, List.getD_eq_getElem?_getD, List.getD_eq_getElem?_getD, List.getElem?_take, if_pos hi]
  have hp := putE_zero h
  have hs : sizeE ((putB f).take k) = 3 := by
    unfold sizeE
    rw [hl, if_neg (by omega), hg 0 h0, putB_first h [], if_neg (by omega)]
    by_cases h4 : k < 4
    · rw [if_pos h4]
    · rw [if_neg h4]
      have hn : lenOf ((putB f).take k) = f.2.length := by
        have := putB_lenOf h []
        unfold lenOf at this ⊢
        rw [hg 2 (by omega), hg 3 (by omega)]; exact this
      rw [hn, if_neg (by omega), if_pos (by omega)]
  unfold getE
  rw [if_neg (by omega), hs]
theorem bad_form {bs : List UInt8} (h0 : bs.length ≠ 0) (h : (bs.getD 0 0).toNat ≠ 83) : getE bs = 2 := by
  have hs : sizeE bs = 2 := by unfold sizeE; rw [if_neg h0, if_pos h]
  unfold getE
  rw [if_neg (by omega), hs]
end Go.Proofs.YthjdbmfobmnnlaaGreat
