/-
  The plain mathematics of the sum, second part: four bytes of a sum, linear texts, single bytes.
-/
import Derived.Test.YtbonockefjenaaaCrcWalksC
namespace Go.Proofs.Ytbonockefjenaaa
open Go.RowKit

/-! ### More of the register -/
theorem not_not (x : BitVec 32) : ~~~(~~~x) = x := BitVec.not_not
theorem not_inj {x y : BitVec 32} (h : ~~~x = ~~~y) : x = y := by rw [← not_not x, h, not_not]
theorem steps_shl (k : Nat) (x y : BitVec 32) (h : (y <<< k) >>> k = y) : steps k (x ^^^ (y <<< k)) = steps k x ^^^ y := by
  rw [steps_xor, steps_shift k (y <<< k) (fun i hi => by rw [BitVec.getLsbD_shiftLeft]; simp [hi]), h]
theorem le_parts (n : BitVec 32) : n = BitVec.ofNat 32 (leAt n 0).toNat ^^^ ((BitVec.ofNat 32 (leAt n 1).toNat) <<< 8) ^^^ ((BitVec.ofNat 32 (leAt n 2).toNat) <<< 16) ^^^ ((BitVec.ofNat 32 (leAt n 3).toNat) <<< 24) := by
  have hb : ∀ k i, (BitVec.ofNat 32 (leAt n k).toNat).getLsbD i = (decide (i < 8) && n.getLsbD (8 * k + i)) := by
    intro k i
    have e : (leAt n k).toNat = n.toNat / 2 ^ (8 * k) % 2 ^ 8 := by
      unfold leAt
      rw [UInt8.toNat_ofNat_of_lt' (Nat.mod_lt _ (by decide))]
    rw [BitVec.getLsbD_ofNat, e, Nat.testBit_mod_two_pow, Nat.testBit_div_two_pow, BitVec.getLsbD]
    by_cases h8 : i < 8
    · have : i < 32 := by omega
      simp [h8, this, Nat.add_comm]
    · simp [h8]
  apply BitVec.eq_of_getLsbD_eq
  intro i hi
  simp only [BitVec.getLsbD_xor, BitVec.getLsbD_shiftLeft, hb]
  by_cases h0 : i < 8
  · have h1 : i < 16 := by omega
    have h2 : i < 24 := by omega
    simp [h0, h1, h2]
  · by_cases h1 : i < 16
    · have h2 : i < 24 := by omega
      have h3 : i - 8 < 8 := by omega
      have h4 : 8 * 1 + (i - 8) = i := by omega
      simp [h0, h1, h2, h3, hi, h4]
    · by_cases h2 : i < 24
      · have h3 : ¬ i - 8 < 8 := by omega
        have h4 : i - 16 < 8 := by omega
        simp [h0, h1, h2, h3, hi, h4]
        congr 1; omega
      · have h3 : ¬ i - 8 < 8 := by omega
        have h4 : ¬ i - 16 < 8 := by omega
        have h5 : i - 24 < 8 := by omega
        simp [h0, h1, h2, h3, hi, h4, h5]
        congr 1; omega
theorem shl_shr {y : Nat} (hy : y < 256) (k : Nat) (hk : k ≤ 24) : ((BitVec.ofNat 32 y) <<< k) >>> k = BitVec.ofNat 32 y := by
  apply BitVec.eq_of_getLsbD_eq
  intro i hi
  rw [BitVec.getLsbD_ushiftRight, BitVec.getLsbD_shiftLeft]
  by_cases h8 : k + i < 32
  · have h1 : ¬ k + i < k := by omega
    have h2 : k + i - k = i := by omega
    simp [h8, h1, h2]
  · have h1 : y.testBit i = false := Nat.testBit_lt_two_pow (Nat.lt_of_lt_of_le hy (by
      have : 2 ^ 8 ≤ 2 ^ i := Nat.pow_le_pow_right (by omega) (by omega)
      simpa using this))
    simp [h8, BitVec.getLsbD_ofNat, h1]
theorem reg_le (r n : BitVec 32) : reg r (le n) = steps 32 (r ^^^ n) := by
  have h1 := shl_shr (leAt n 1).toNat_lt 8 (by omega)
  have h2 := shl_shr (leAt n 2).toNat_lt 16 (by omega)
  have h3 := shl_shr (leAt n 3).toNat_lt 24 (by omega)
  have e : r ^^^ n = r ^^^ BitVec.ofNat 32 (leAt n 0).toNat ^^^ ((BitVec.ofNat 32 (leAt n 1).toNat) <<< 8) ^^^ ((BitVec.ofNat 32 (leAt n 2).toNat) <<< 16) ^^^ ((BitVec.ofNat 32 (leAt n 3).toNat) <<< 24) := by
    conv => lhs; rw [le_parts n]
    simp only [BitVec.xor_assoc]
  rw [e, steps_add 8 24, steps_shl 24 _ _ h3, steps_add 8 16, steps_shl 16 _ _ h2, steps_add 8 8, steps_shl 8 _ _ h1]
  rfl
/-- Bytes with their sum behind them have one and the same sum. -/
theorem sum_sealed (bs : List UInt8) : sum (sealed bs) = 0x2144df1c#32 := by
  unfold sealed
  rw [sum, more, reg_append, reg_le, sum, more]
  have : reg (~~~ 0#32) bs ^^^ ~~~ reg (~~~ 0#32) bs = BitVec.allOnes 32 := by
    generalize reg (~~~ 0#32) bs = r
    rw [← BitVec.xor_allOnes, ← BitVec.xor_assoc, BitVec.xor_self, BitVec.zero_xor]
  rw [this]
  decide +kernel
theorem more_append (bs : List UInt8) (cut : Nat) : more (sum (bs.take cut)) (bs.drop cut) = sum bs := by
  unfold sum
  rw [more, more, not_not, ← reg_append, List.take_append_drop, more]
theorem more_nil (s : BitVec 32) : more s [] = s := by rw [more]; exact not_not s
theorem opens_sealed (bs : List UInt8) : opens (sealed bs) = true ∧ opened (sealed bs) = bs := by
  have h : (sealed bs).take ((sealed bs).length - 4) = bs := by
    rw [sealed_length, Nat.add_sub_cancel]
    unfold sealed
    exact List.take_left
  have ho : opens (sealed bs) = true := by
    unfold opens
    rw [h, sealed_length]
    simp
  exact ⟨ho, by unfold opened; rw [if_pos ho, h]⟩
/-! ### Linear -/
def xor3 (a b c : List UInt8) : List UInt8 := (List.range a.length).map fun i => a.getD i 0 ^^^ b.getD i 0 ^^^ c.getD i 0
theorem xor3_cons (x y z : UInt8) (a b c : List UInt8) : xor3 (x :: a) (y :: b) (z :: c) = (x ^^^ y ^^^ z) :: xor3 a b c := by
  unfold xor3
  rw [List.length_cons, List.range_succ_eq_map, List.map_cons, List.map_map]
  rfl
theorem ofNat_xor8 (x y : UInt8) : BitVec.ofNat 32 (x ^^^ y).toNat = BitVec.ofNat 32 x.toNat ^^^ BitVec.ofNat 32 y.toNat := by
  rw [UInt8.toNat_xor, BitVec.ofNat_xor]
theorem bstep_xor (r s : BitVec 32) (x y : UInt8) : bstep (r ^^^ s) (x ^^^ y) = bstep r x ^^^ bstep s y := by
  unfold bstep
  rw [← steps_xor, ofNat_xor8]
  congr 1
  ac_rfl
theorem reg_xor3 (r s t : BitVec 32) (a b c : List UInt8) (h1 : a.length = b.length) (h2 : a.length = c.length) : reg (r ^^^ s ^^^ t) (xor3 a b c) = reg r a ^^^ reg s b ^^^ reg t c := by
  induction a generalizing r s t b c with
  | nil =>
    cases b with
    | nil => cases c with
      | nil => rfl
      | cons _ _ => cases h2
    | cons _ _ => cases h1
  | cons x a ih =>
    cases b with
    | nil => cases h1
    | cons y b => cases c with
      | nil => cases h2
      | cons z c =>
        rw [xor3_cons]
        show reg (bstep (r ^^^ s ^^^ t) (x ^^^ y ^^^ z)) (xor3 a b c) = reg (bstep r x) a ^^^ reg (bstep s y) b ^^^ reg (bstep t z) c
        rw [bstep_xor, bstep_xor]
        exact ih _ _ _ b c (by simpa using h1) (by simpa using h2)
theorem sum_xor3 (a b c : List UInt8) (h1 : a.length = b.length) (h2 : a.length = c.length) : sum (xor3 a b c) = sum a ^^^ sum b ^^^ sum c := by
  unfold sum more
  have h := reg_xor3 (~~~ 0#32) (~~~ 0#32) (~~~ 0#32) a b c h1 h2
  rw [show (~~~ 0#32 ^^^ ~~~ 0#32 ^^^ ~~~ 0#32 : BitVec 32) = ~~~ 0#32 from by decide] at h
  rw [h]
  generalize reg (~~~ 0#32) a = A
  generalize reg (~~~ 0#32) b = B
  generalize reg (~~~ 0#32) c = C
  rw [← BitVec.xor_allOnes, ← BitVec.xor_allOnes, ← BitVec.xor_allOnes, ← BitVec.xor_allOnes]
  have : ∀ m : BitVec 32, A ^^^ B ^^^ C ^^^ m = A ^^^ m ^^^ (B ^^^ m) ^^^ (C ^^^ m) := by
    intro m
    have h1 : A ^^^ m ^^^ (B ^^^ m) ^^^ (C ^^^ m) = A ^^^ B ^^^ C ^^^ m ^^^ (m ^^^ m) := by
      ac_rfl
    rw [h1, BitVec.xor_self, BitVec.xor_zero]
  exact this _
/-! ### Nothing is lost -/
theorem bstep_inj {r s : BitVec 32} {x y : UInt8} (h : bstep r x = bstep s y) : r ^^^ BitVec.ofNat 32 x.toNat = s ^^^ BitVec.ofNat 32 y.toNat := steps_inj h
theorem reg_inj {r s : BitVec 32} {bs : List UInt8} (h : reg r bs = reg s bs) : r = s := by
  induction bs generalizing r s with
  | nil => exact h
  | cons b bs ih =>
    have := bstep_inj (ih (r := bstep r b) (s := bstep s b) h)
    have h2 := congrArg (fun z => z ^^^ BitVec.ofNat 32 b.toNat) this
    simpa only [xor_cancel] using h2
theorem ofNat8_inj {x y : UInt8} (h : BitVec.ofNat 32 x.toNat = BitVec.ofNat 32 y.toNat) : x = y := by
  have h2 := congrArg BitVec.toNat h
  have h3 := x.toNat_lt
  have h4 := y.toNat_lt
  rw [BitVec.toNat_ofNat, BitVec.toNat_ofNat, Nat.mod_eq_of_lt (by omega), Nat.mod_eq_of_lt (by omega)] at h2
  exact UInt8.toNat_inj.1 h2
theorem more_one {s : BitVec 32} {x y : UInt8} (h : more s [x] = more s [y]) : x = y := by
  have h1 := bstep_inj (not_inj h)
  have h2 := congrArg (fun z => (~~~ s) ^^^ z) h1
  simp only [← BitVec.xor_assoc, BitVec.xor_self, BitVec.zero_xor] at h2
  exact ofNat8_inj h2
theorem sum_set {bs : List UInt8} {k : Nat} (hk : k < bs.length) {x : UInt8} (h : sum (bs.set k x) = sum bs) : x = bs.getD k 0 := by
  have e1 : bs.set k x = bs.take k ++ x :: bs.drop (k + 1) := List.set_eq_take_append_cons_drop.trans (by rw [if_pos hk])
  have e2 : bs = bs.take k ++ bs.getD k 0 :: bs.drop (k + 1) := by
    rw [List.getD_eq_getElem?_getD, List.getElem?_eq_getElem hk, Option.getD_some, List.getElem_cons_drop, List.take_append_drop]
  rw [e1] at h
  conv at h => rhs; rw [e2]
  have h1 := not_inj h
  rw [reg_append, reg_append] at h1
  have h2 := bstep_inj (reg_inj (r := bstep _ x) (s := bstep _ (bs.getD k 0)) h1)
  have h3 := congrArg (fun z => reg (~~~ 0#32) (bs.take k) ^^^ z) h2
  simp only [← BitVec.xor_assoc, BitVec.xor_self, BitVec.zero_xor] at h3
  exact ofNat8_inj h3
end Go.Proofs.Ytbonockefjenaaa
