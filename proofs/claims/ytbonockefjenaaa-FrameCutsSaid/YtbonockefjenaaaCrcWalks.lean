/-
  The contracts of layer 1's functions: what each of them computes, shown by walking its text.
-/
import Derived.Test.YtbonockefjenaaaProg
import Derived.Test.YtbonockefjenaaaCrcMath
import Derived.Test.YtbonockefjenaaaBase
namespace Go.Proofs.Ytbonockefjenaaa
open Go.RowKit

set_option maxHeartbeats 400000 in
theorem nibbles_any (w : World) :
    Calls Try.prog 29 #[] w fun e w' => e = .returned (.agg nibV) ∧ Below w.heap.size w w' := by
  have E0 := Lib.hid tabV_zero
  go_enter Try.func29, Try.ntmps29
  go_wp2
  rw [E0.out]
  go_loopw [4] (fun i wr => ∃ k : Nat, k ≤ 16 ∧ i = .int .i64 k ∧ wr = (w.alloc (.cells (tabV 0) 50)).alloc (.cells (tabV k) 50)) (fun i _ => 16 - (intOf i).toNat)
  case atStart => exact ⟨0, by omega, rfl, rfl⟩
  case round =>
    obtain ⟨k, hk, rfl, rfl⟩ := hrel
    by_cases hlt : k < 16
    · have HC := Lib.hid (tabV_at k hlt)
      have HS := Lib.hid (tabV_set k hlt)
      go_wp2
      go_loop [3, 9] (fun x j => ∃ m : Nat, m ≤ 4 ∧ j = .int .i64 m ∧ x = .int .u32 (U (steps m (BitVec.ofNat 32 k)))) (fun _ j => 4 - (intOf j).toNat)
      case atStart => exact ⟨0, by omega, rfl, by rw [steps, U_ofNat _ (by omega)]⟩
      case round =>
        obtain ⟨m, hm, rfl, rfl⟩ := hrel
        by_cases hlt : m < 4
        · have HF := Lib.hid (step_form (steps m (BitVec.ofNat 32 k)))
          have H0 := U0 (steps m (BitVec.ofNat 32 k))
          generalize U (steps m (BitVec.ofNat 32 k)) = X at HF H0
          go_wp2
          go_round
          case rel => exact ⟨m + 1, by omega, by go_num, by rw [HF.out]; rfl⟩
          case measure => simp [intOf]; omega
        · obtain rfl : m = 4 := by omega
          have hcell := HC.out
          rw [nib] at HS
          generalize U (steps 4 (BitVec.ofNat 32 k)) = Y at HS
          go_wp2
          go_roundw
          case rel => exact ⟨k + 1, by omega, by go_num, by rw [HS.out]⟩
          case measure => simp [intOf]; omega
    · obtain rfl : k = 16 := by omega
      have ht : tabV 16 = nibL := nibV_lit
      rw [ht, ← tabV_zero, nibL]
      clear ht
      go_wp2
      refine bodyPost_ret (v := .agg nibL) (by simp [results, Try.results29, go_sem]; rfl) rfl ⟨by rw [nibV_lit], ?_⟩
      exact ((Below.refl _ _).alloc (Nat.le_refl _) _).alloc (by simp) _
theorem storeNib (W : World) : (storeCells ⟨W.heap.size, 0, none⟩ nibV.toList 0).run Try.prog (W.alloc (.cells #[.int .u32 0, .int .u32 0, .int .u32 0, .int .u32 0, .int .u32 0, .int .u32 0, .int .u32 0, .int .u32 0, .int .u32 0, .int .u32 0, .int .u32 0, .int .u32 0, .int .u32 0, .int .u32 0, .int .u32 0, .int .u32 0] 50)) = .ok () (W.alloc (.cells nibV 50)) :=
  run_storeCells_new W 50 #[.int .u32 0, .int .u32 0, .int .u32 0, .int .u32 0, .int .u32 0, .int .u32 0, .int .u32 0, .int .u32 0, .int .u32 0, .int .u32 0, .int .u32 0, .int .u32 0, .int .u32 0, .int .u32 0, .int .u32 0, .int .u32 0] nibV (by rw [nibV_size]; kernel_rfl) (by rw [nibV_size]; rfl) nibV_one
set_option maxHeartbeats 400000 in
theorem more_any (s : BitVec 32) (a : Option Addr) (cap : Nat) (bs : List UInt8) (w : World) (hb : CellsB w a bs) (hl : bs.length ≤ 1000000) :
    Calls Try.prog 27 #[.int .u32 (U s), .slice a bs.length cap] w fun e w' => e = .returned (.int .u32 (U (more s bs))) ∧ Below w.heap.size w w' := by
  have hst := storeNib
  have hnot := not_form' s
  go_enter Try.func27, Try.ntmps27
  go_wp2
  refine scope_loop 0 (fun a' w' => ∃ (w1 : World) (k : Nat) (u2 u3 u8 u9 u10 u11 u12 u13 u14 u15 u16 u17 u18 u19 u20 u21 u22 u23 u24 u25 u26 u27 u28 u29 u30 u31 u32 u33 u34 u35 u36 u37 u38 u39 : Value), Below w.heap.size w w1 ∧ w' = w1.alloc (.cells nibV 50) ∧ k ≤ bs.length ∧ a' = { tmps := #[.int .u32 (U s), .slice a bs.length cap, u2, u3, .int .u32 0, .pointer (some ⟨w1.heap.size, 0, none⟩), .int .u32 (U (reg (~~~ s) (bs.take k))), .int .i64 k, u8, u9, u10, u11, u12, u13, u14, u15, u16, u17, u18, u19, u20, u21, u22, u23, u24, u25, u26, u27, u28, u29, u30, u31, u32, u33, u34, u35, u36, u37, u38, u39], defers := [] }) (fun a' _ => bs.length - (intOf (a'.tmps.getD 7 undef)).toNat) rfl ?_ ?_
  · clear hst hnot
    rintro a' w' ⟨w1, k, u2, u3, u8, u9, u10, u11, u12, u13, u14, u15, u16, u17, u18, u19, u20, u21, u22, u23, u24, u25, u26, u27, u28, u29, u30, u31, u32, u33, u34, u35, u36, u37, u38, u39, hb1, rfl, hk, rfl⟩
    by_cases hlt : k < bs.length
    · obtain ⟨b, off, rfl, hbl, hcell⟩ := hb.at hlt
      rw [← hb1.cell (p := ⟨b, off + k, none⟩) hbl] at hcell
      have hbl1 : b < w1.heap.size := Nat.lt_of_lt_of_le hbl hb1.size
      obtain ⟨B, n1, n2, X1, X2, N1, N2, X3, hB, hB1, e1, p1, e2, q1, c1, e3, p2, e4, q2, c2, e5, HX⟩ := round_forms (reg (~~~ s) (bs.take k)) (bs.getD k 0)
      rw [← hB] at hcell
      rw [← reg_take_succ _ _ _ hlt] at HX
      have HY := Lib.hid HX
      clear hB HX hb
      go_wp2
      go_step3
      obtain rfl := HY.out
      refine ⟨rfl, ⟨w1, k + 1, ?_⟩, by simp [intOf]; omega⟩
      repeat apply Exists.intro
      exact ⟨hb1, rfl, by omega, rfl⟩
    · obtain rfl : k = bs.length := by omega
      go_wp2
      simp only [Exit.jump]
      go_ret
      exact ⟨ret_int (not_form' (reg (~~~ s) bs)), (hb1.trans ((Below.refl _ _).alloc (Nat.le_refl _) _ |>.mono hb1.size))⟩
  · intro hp
    go_wp2_with ((go_at_call 29; refine (nibbles_any _).mono ?_; rintro e w1 ⟨rfl, hb1⟩))
    go_step3
    refine (by assumption : ∀ (a : Act) (w : World), _ → _) _ _ (hp _ _ ⟨w1, 0, ?_⟩)
    repeat apply Exists.intro
    exact ⟨hb1, rfl, by omega, rfl⟩
end Go.Proofs.Ytbonockefjenaaa
