/-
  Layer 2: how many bytes a number needs: the plain law, and the walks of both texts.
-/
import Derived.Test.YtipngfdibcapjaaBase
import Derived.Test.YtipngfdibcapjaaBitsLen
namespace Go.Proofs.Ytipngfdibcapjaa
open Go.RowKit
/-- How many bytes a number needs. -/
def dsz (n : Nat) : Nat := (Lib.bitLen n + 7) / 8
theorem dsz_zero : dsz 0 = 0 := by decide
theorem dsz_small {n : Nat} (h0 : 0 < n) (h : n < 256) : dsz n = 1 := by
  have := (by decide +kernel : ∀ k : Fin 256, 0 < k.val → dsz k.val = 1) ⟨n, h⟩ h0
  exact this
theorem dsz_step {n : Nat} (h0 : 0 < n) (h : n < 18446744073709551616) : dsz n = dsz (n / 256) + 1 := by
  by_cases h1 : n < 256
  · rw [dsz_small h0 h1, show n / 256 = 0 by omega, dsz_zero]
  · unfold dsz
    rw [Lib.bitLen_shift8 n (by omega) h]
    omega
theorem dsz_lt : ∀ (k n : Nat), n < 256 ^ k → n < 18446744073709551616 → dsz n ≤ k
  | 0, n, h, _ => by have : n = 0 := by simpa using h
                     rw [this, dsz_zero]; exact Nat.le_refl _
  | k + 1, n, h, hn => by
    rcases Nat.eq_zero_or_pos n with h0 | h0
    · rw [h0, dsz_zero]; omega
    · rw [dsz_step h0 hn]
      have : n / 256 < 256 ^ k := by rw [Nat.pow_succ] at h; omega
      have := dsz_lt k (n / 256) this (by omega)
      omega
theorem dsz_pow : ∀ (k n : Nat), dsz n = k → n < 18446744073709551616 → n < 256 ^ k ∧ (0 < k → 256 ^ (k - 1) ≤ n)
  | 0, n, h, hn => by
    rcases Nat.eq_zero_or_pos n with h0 | h0
    · subst h0; exact ⟨by decide, fun h => by omega⟩
    · rw [dsz_step h0 hn] at h; omega
  | k + 1, n, h, hn => by
    rcases Nat.eq_zero_or_pos n with h0 | h0
    · rw [h0, dsz_zero] at h; omega
    · rw [dsz_step h0 hn] at h
      obtain ⟨h1, h2⟩ := dsz_pow k (n / 256) (by omega) (by omega)
      refine ⟨by rw [Nat.pow_succ]; omega, fun _ => ?_⟩
      rcases Nat.eq_zero_or_pos k with hk | hk
      · subst hk; simp; omega
      · have h3 := h2 hk
        rw [show k + 1 - 1 = (k - 1) + 1 by omega, Nat.pow_succ]; omega
theorem dsz_mono {a b : Nat} (h : a ≤ b) (hb : b < 18446744073709551616) : dsz a ≤ dsz b := dsz_lt _ _ (Nat.lt_of_le_of_lt h (dsz_pow _ b rfl hb).1) (by omega)
theorem dsz_le7 {n : Nat} (h : n < 72057594037927936) : dsz n ≤ 7 := dsz_lt 7 n (by simpa using h) (by omega)
/-- What Size answers. -/
def sizeI (n : Int) : Int := if n < 0 ∨ 72057594037927936 ≤ n then -1 else (dsz n.toNat : Int)
theorem sizeI_bad {n : Int} (h : n < 0 ∨ 72057594037927936 ≤ n) : sizeI n = -1 := if_pos h
theorem sizeI_ok {n : Int} (h0 : 0 ≤ n) (h1 : n < 72057594037927936) : sizeI n = (dsz n.toNat : Int) ∧ (dsz n.toNat) ≤ 7 := ⟨if_neg (by omega), dsz_le7 (by omega)⟩
set_option linter.unusedVariables false
set_option maxHeartbeats 1600000 in
theorem size_any (n : Int) (hn : (Lit.int .i64 n).wf = true) (w : World) : Calls Try.prog 14 #[.int .i64 n] w fun e w' => e = .returned (.int .i64 (sizeI n)) ∧ w' = w := by
  by_cases h1 : n < 0
  · have HS := Lib.hid (sizeI_bad (.inl h1))
    go_enter Try.func14, Try.ntmps14
    go_wp2
    go_ret
    rw [HS.out]; exact ⟨rfl, rfl⟩
  · by_cases h2 : 72057594037927936 ≤ n
    · have HS := Lib.hid (sizeI_bad (.inr h2))
      have hq : (n / 72057594037927936 != 0) = true := by
        have : n / 72057594037927936 ≠ 0 := by omega
        simpa using this
      have H2 := Lib.hid h2
      clear h2
      go_enter Try.func14, Try.ntmps14
      go_wp2
      go_ret
      rw [HS.out]; exact ⟨rfl, rfl⟩
    · have HS := Lib.hid (sizeI_ok (by omega) (show n < 72057594037927936 by omega)).1
      have hq : (n / 72057594037927936 != 0) = false := by
        have : n / 72057594037927936 = 0 := by omega
        simpa using this
      have hL := Lib.bitLen_le n.toNat 56 (by omega) (by omega)
      have HD : Hid (dsz n.toNat = (Lib.bitLen n.toNat + 7) / 8) := rfl
      have HB : Hid (∀ W, Calls Try.prog 25 #[.int .u64 n] W fun e w' => e = .returned (.int .i64 (Lib.bitLen n.toNat)) ∧ w' = W) := fun W => bits_Len n W (by omega) (by omega)
      generalize Lib.bitLen n.toNat = L at hL HD HB
      have hn0 : 0 ≤ n := by omega
      have hwn : IntKind.u64.wrap n = n := by simp [IntKind.wrap, IntKind.bits, IntKind.signed]; omega
      have HW := Lib.hid hwn
      clear h2 hn hwn h1
      have hw := HW.out
      go_enter Try.func14, Try.ntmps14
      go_wp2_with (go_at_call 25; refine (HB.out _).mono ?_; rintro e w' ⟨rfl, rfl⟩)
      go_ret
      rw [HS.out, HD.out]
      exact ⟨ret_int (by omega), rfl⟩
theorem refSize_any (n : Int) (hn : (Lit.int .i64 n).wf = true) (w : World) : Calls Try.prog 15 #[.int .i64 n] w fun e w' => e = .returned (.int .i64 (sizeI n)) ∧ w' = w := by
  by_cases h1 : n < 0
  · have HS := Lib.hid (sizeI_bad (.inl h1))
    go_enter Try.func15, Try.ntmps15
    go_wp2
    go_ret
    rw [HS.out]; exact ⟨rfl, rfl⟩
  · by_cases h2 : 72057594037927936 ≤ n
    · have HS := Lib.hid (sizeI_bad (.inr h2))
      go_enter Try.func15, Try.ntmps15
      go_wp2
      go_ret
      rw [HS.out]; exact ⟨rfl, rfl⟩
    · obtain ⟨hs, h7⟩ := sizeI_ok (by omega) (show n < 72057594037927936 by omega)
      have HS := Lib.hid hs
      obtain ⟨m, rfl⟩ : ∃ m : Nat, n = (m : Int) := ⟨n.toNat, by omega⟩
      rw [Int.toNat_natCast] at h7
      have hm : m < 72057594037927936 := by omega
      have HM := Lib.hid hm
      clear hs hn hm
      go_enter Try.func15, Try.ntmps15
      go_wp2
      clear h1 h2
      go_loopw [0, 3] (fun v k wr => ∃ r : Nat, v = .int .i64 r ∧ Hid (∃ j : Nat, dsz r + j = dsz m ∧ k = .int .i64 j) ∧ r ≤ m ∧ wr = w) (fun v _ _ => (intOf v).toNat)
      case atStart => exact ⟨m, rfl, ⟨0, rfl, rfl⟩, Nat.le_refl _, rfl⟩
      case round =>
        obtain ⟨r, rfl, HK, hrm, rfl⟩ := hrel
        obtain ⟨j, hj, rfl⟩ := HK.out
        have hj7 : j ≤ 7 := by omega
        by_cases hr : (0 : Int) < (r : Int)
        · have hst := dsz_step (n := r) (by omega) (by have := HM.out; omega)
          have HJ : Hid (dsz (r / 256) + (j + 1) = dsz m) := by rw [Hid]; omega
          have hwr : IntKind.i64.wrap ((r : Int) / 256) = (r : Int) / 256 := by have := HM.out; rw [IntKind.wrap_i64]; omega
          clear hj hst HK
          go_wp2
          go_roundw
          case rel => exact ⟨r / 256, by go_num, ⟨j + 1, HJ.out, by go_num⟩, by omega, trivial⟩
          case measure => simp [intOf]; omega
        · have hr0 : r = 0 := by omega
          subst hr0
          rw [dsz_zero] at hj
          have HJ := Lib.hid hj
          clear hj HK
          go_wp2
          go_ret
          have := HJ.out
          rw [HS.out, Int.toNat_natCast]
          exact ⟨by rw [← this]; simp, rfl⟩
end Go.Proofs.Ytipngfdibcapjaa
