/-
  Layer 2: a number's bytes; put.
-/
import Derived.Test.YtipngfdibcapjaaFieldsA
import Derived.Test.YtipngfdibcapjaaBaseC
namespace Go.Proofs.Ytipngfdibcapjaa
open Go.RowKit
/-- A number's first i bytes out of so many. -/
def digsP (n size i : Nat) : List UInt8 := (List.range i).map fun j => b8 (n / 256 ^ (size - 1 - j))
def digs (n size : Nat) : List UInt8 := digsP n size size
theorem digsP_length (n size i : Nat) : (digsP n size i).length = i := by simp [digsP]
theorem digsP_succ (n size i : Nat) : digsP n size (i + 1) = digsP n size i ++ [b8 (n / 256 ^ (size - 1 - i))] := by simp [digsP, List.range_succ]
theorem shr_byte (n m : Nat) : ((n : Int) / 2 ^ (8 * m) % 256) = ((b8 (n / 256 ^ m)).toNat : Int) := by
  have h : (2 : Int) ^ (8 * m) = ((256 ^ m : Nat) : Int) := by
    rw [show (256 : Nat) = 2 ^ 8 from rfl, ← Nat.pow_mul]
    exact (Int.natCast_pow 2 _).symm
  rw [h, b8_mod]
  omega
set_option linter.unusedVariables false
set_option maxHeartbeats 1600000 in
theorem put_any (base : Nat) (a : Option Addr) (cap : Nat) (bs : List UInt8) (n size : Nat) (w : World) (hown : w.ownsRow base 5 1 (.slice a bs.length cap) bs.length (bs.map byteV)) (hb : base ≤ w.heap.size) (hs : size ≤ 8) (hl : bs.length ≤ 1000000) (hn : n < 72057594037927936) :
    Calls Try.prog 23 #[.slice a bs.length cap, .int .i64 n, .int .i64 size] w fun e w' => ∃ a' cap' X, e = .returned (.slice a' X.length cap') ∧ X = bs ++ digs n size ∧ w'.ownsRow base 5 1 (.slice a' X.length cap') X.length (X.map byteV) ∧ Below base w w' := by
  have HN := Lib.hid hn
  clear hn
  go_enter Try.func23, Try.ntmps23
  go_wp2
  go_loopw [0, 9] (fun v i wr => ∃ (k : Nat) (X : List UInt8) (aL : Option Addr) (cL : Nat), k ≤ size ∧ i = .int .i64 k ∧ v = .slice aL X.length cL ∧ X.length ≤ 1000008 ∧ Hid (X.length = bs.length + k) ∧ Hid (X = bs ++ digsP n size k) ∧ wr.ownsRow base 5 1 (.slice aL X.length cL) X.length (X.map byteV) ∧ Below base w wr) (fun _ i _ => size - (intOf i).toNat)
  case atStart => exact ⟨0, bs, a, cap, by omega, rfl, rfl, by omega, rfl, by rw [Hid]; simp [digsP], hown, Below.refl _ _⟩
  case round =>
    obtain ⟨k, X, aL, cL, hk, rfl, rfl, hXb, HXL, HX, hown, hbw⟩ := hrel
    by_cases hlt : k < size
    · obtain ⟨d, hd⟩ : ∃ d, d = b8 (n / 256 ^ (size - 1 - k)) := ⟨_, rfl⟩
      have HE : Hid (((n : Int) / 2 ^ (8 * (size - 1 - k)) % 256) = (d.toNat : Int)) := by rw [Hid, hd]; exact shr_byte _ _
      have HXk := Lib.hid (digsP_succ n size k)
      rw [← hd] at HXk
      obtain ⟨Y, hY⟩ : ∃ Y, Y = X ++ [d] := ⟨_, rfl⟩
      have HYL : Hid (X.length + 1 = Y.length) := by rw [Hid, hY]; simp
      have HYM : Hid (X.map byteV ++ [byteV d] = Y.map byteV) := by rw [Hid, hY]; simp
      have HY : Hid (Y = bs ++ digsP n size (k + 1)) := by rw [Hid, HXk.out, hY, HX.out, List.append_assoc]
      clear hd hY
      have hb9 : base ≤ wr.heap.size := Nat.le_trans hb hbw.size
      go_wp2_with (at_builtin; refine wpList_append_row rfl (.tmp 12) (.tmp 21) rfl elemB base (.slice aL X.length cL) X.length (X.map byteV) (by rfl) (hown.alloc _) (some ⟨wr.heap.size, 0, none⟩) 1 1 [byteV d] (by rfl) (by rfl) (by have h := RowAt.new wr #[.int .u8 ((n : Int) / 2 ^ (8 * (size - 1 - k)) % 256)] 5; rw [HE.out] at h ⊢; exact h) (byteV_one [d]) (by unfold maxLen; omega) (by omega) (by simp; omega) (by simp) ?_; intro a6 c6 w6 hown6 hg6 hat6; rw [HYL.out, HYM.out] at hown6; rw [HYL.out])
      have hb6 : Below base w w6 := Below.appended (hbw.alloc hb9 _) (hown.alloc _) hg6 (by simp; omega) (Nat.le_refl _)
      clear hown hg6 hat6
      go_roundw
      case rel => exact ⟨k + 1, Y, a6, c6, by omega, by go_num, rfl, by have := HYL.out; have := HXL.out; omega, by have := HYL.out; have := HXL.out; rw [Hid]; omega, HY, hown6, hb6⟩
      case measure => simp [intOf]; omega
    · have hk : k = size := by omega
      subst hk
      go_wp2
      go_ret
      exact ⟨aL, cL, X, rfl, HX.out, hown, hbw⟩
end Go.Proofs.Ytipngfdibcapjaa
