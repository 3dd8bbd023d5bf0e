/-
  Layer 2, the document's answer: a number.
-/
import Derived.Test.YtipngfdibcapjaaFieldsR
namespace Go.Proofs.Ytipngfdibcapjaa
open Go.RowKit
set_option linter.unusedVariables false
theorem numP_ok {bs : List UInt8} {c : Nat} (hc : (bs.getD 0 0).toNat = c) (h0 : 0 < bs.length) (h7 : c ≤ 7) (hf : 0 < c → 2 ≤ bs.length → bs.getD 1 0 ≠ 0) (hl : 1 + c ≤ bs.length) : numP bs = (0, valB ((bs.drop 1).take c), 1 + c) := by
  unfold numP
  rw [hc, if_neg (by omega), if_neg (by omega), if_neg (fun h => hf h.1 h.2.1 h.2.2), if_neg (by omega)]
theorem numP_more {bs : List UInt8} {c : Nat} (hc : (bs.getD 0 0).toNat = c) (h7 : c ≤ 7) (hf : 0 < c → 2 ≤ bs.length → bs.getD 1 0 ≠ 0) (hl : bs.length < 1 + c) : numP bs = (3, 0, 0) := by
  unfold numP
  by_cases h0 : bs.length = 0
  · rw [if_pos h0]
  · rw [hc, if_neg h0, if_neg (by omega), if_neg (fun h => hf h.1 h.2.1 h.2.2), if_pos hl]
theorem numP_form {bs : List UInt8} {c : Nat} (hc : (bs.getD 0 0).toNat = c) (h0 : 0 < c) (h2 : 2 ≤ bs.length) (h1 : bs.getD 1 0 = 0) : numP bs = (2, 0, 0) := by
  unfold numP
  rw [hc, if_neg (by omega)]
  by_cases h7 : 7 < c
  · rw [if_pos h7]
  · rw [if_neg h7, if_pos ⟨h0, h2, h1⟩]
theorem numP_long {bs : List UInt8} {c : Nat} (hc : (bs.getD 0 0).toNat = c) (h0 : 0 < bs.length) (h7 : 7 < c) : numP bs = (2, 0, 0) := by
  unfold numP
  rw [hc, if_neg (by omega), if_pos h7]
set_option maxHeartbeats 6400000 in
theorem refNumber_any (a : Option Addr) (cap : Nat) (bs : List UInt8) (w : World) (hb : CellsB w a bs) (hlm : bs.length ≤ 1000000) :
    Calls Try.prog 30 #[.slice a bs.length cap] w fun e w' => e = .returned (.tuple #[.int .i64 (numP bs).2.1, .int .i64 (numP bs).2.2, .int .i64 (numP bs).1]) ∧ w = w' := by
  by_cases h0 : bs.length = 0
  · obtain rfl := List.eq_nil_of_length_eq_zero h0
    clear hb hlm h0
    go_enter Try.func30, Try.ntmps30
    go_wp2
    refine bodyPost_ret (v := .tuple #[.int .i64 0, .int .i64 0, .int .i64 3]) (by simp [results, Try.results30, go_sem]) rfl ?_
    exact ⟨rfl, rfl⟩
  have hl0 : 0 < bs.length := by omega
  have hl0' : (0 : Int) < (bs.length : Int) := by omega
  have hl1 : ((bs.length : Int) == 0) = false := by rw [beq_eq_false_iff_ne]; omega
  obtain ⟨b, off, rfl, hblt, hcell⟩ := hb.at (k := 0) hl0
  rw [Nat.add_zero] at hcell
  obtain ⟨c, hc⟩ : ∃ c, (bs.getD 0 0).toNat = c := ⟨_, rfl⟩
  rw [hc] at hcell
  have hc256 : c < 2 ^ 8 := by rw [← hc]; exact (bs.getD 0 0).toNat_lt
  have HCE := Lib.hid hc
  clear hc h0
  by_cases h7 : 7 < c
  · have HN := Lib.hid (numP_long HCE.out hl0 h7)
    have h7' : (7 : Int) < (c : Int) := by omega
    clear hb h7
    go_enter Try.func30, Try.ntmps30
    go_wp2
    refine bodyPost_ret (v := .tuple #[.int .i64 0, .int .i64 0, .int .i64 2]) (by simp [results, Try.results30, go_sem]) rfl ?_
    rw [HN.out]
    exact ⟨rfl, rfl⟩
  have h7' : (c : Int) ≤ 7 := by omega
  have HB := Lib.hid hb
  clear hb
  go_enter Try.func30, Try.ntmps30
  go_wp2
  go_loop [6, 7] (fun v i => ∃ j : Nat, j ≤ c ∧ j < bs.length ∧ i = .int .i64 ((j : Int) + 1) ∧ v = .int .i64 (valB ((bs.drop 1).take j)) ∧ Hid (0 < j → bs.getD 1 0 ≠ 0)) (fun _ i => 8 - (intOf i).toNat)
  case atStart => exact ⟨0, by omega, hl0, rfl, rfl, fun h => by omega⟩
  case round =>
    obtain ⟨j, hj, hjl, rfl, rfl, HF⟩ := hrel
    by_cases hlt : j < c
    · have hlt' : (j : Int) + 1 ≤ (c : Int) := by omega
      by_cases hm : bs.length ≤ j + 1
      · have HN := Lib.hid (numP_more HCE.out (by omega) (fun h1 h2 => by
          by_cases hj0 : 0 < j
          · exact HF.out hj0
          · omega) (by omega))
        have hm' : (bs.length : Int) ≤ (j : Int) + 1 := by omega
        clear hm
        go_wp2
        refine bodyPost_ret (v := .tuple #[.int .i64 0, .int .i64 0, .int .i64 3]) (by simp [results, Try.results30, go_sem]) rfl ?_
        rw [HN.out]
        exact ⟨rfl, rfl⟩
      · have hm' : (j : Int) + 1 < (bs.length : Int) := by omega
        have hj0 : (0 : Int) ≤ (j : Int) + 1 := by omega
        have hj1 : ((j : Int) + 1).toNat = j + 1 := by omega
        obtain ⟨b', off', hbb, hblt', hcell'⟩ := HB.out.at (k := j + 1) (by omega)
        cases hbb
        have hv2 : valB ((bs.drop 1).take j) < 281474976710656 := by
          have h1 := valB_lt ((bs.drop 1).take j)
          have h2 := Nat.pow_le_pow_right (show 0 < 256 by decide) (show ((bs.drop 1).take j).length ≤ 6 by rw [List.length_take]; omega)
          exact Nat.lt_of_lt_of_le h1 h2
        have hv1 : valB ((bs.drop 1).take (j + 1)) = valB ((bs.drop 1).take j) * 256 + (bs.getD (j + 1) 0).toNat := by
          have hkl : j < (bs.drop 1).length := by rw [List.length_drop]; omega
          rw [List.take_add_one, List.getElem?_eq_getElem hkl, Option.toList_some, valB_snoc, List.getElem_drop, List.getD_eq_getElem?_getD, List.getElem?_eq_getElem (show j + 1 < bs.length by omega)]
          congr 3
          simp [Nat.add_comm]
        have hd := (bs.getD (j + 1) 0).toNat_lt
        have HV1 := Lib.hid hv1
        clear hv1
        by_cases hj00 : j = 0
        · subst hj00
          by_cases hz : bs.getD 1 0 = 0
          · have HN := Lib.hid (numP_form HCE.out (by omega) (by omega) hz)
            have hl1' : (1 : Int) < (bs.length : Int) := by omega
            simp only [Nat.zero_add] at hcell'
            rw [hz] at hcell'
            have h00 : ((0 : UInt8).toNat : Int) = 0 := rfl
            rw [h00] at hcell'
            clear hz h00 hv2
            go_wp2
            refine bodyPost_ret (v := .tuple #[.int .i64 0, .int .i64 0, .int .i64 2]) (by simp [results, Try.results30, go_sem]) rfl ?_
            rw [HN.out]
            exact ⟨rfl, rfl⟩
          · have hl1' : (1 : Int) < (bs.length : Int) := by omega
            simp only [Nat.zero_add] at hcell' HV1 hd
            have hy : (bs.getD 1 0).toNat ≠ 0 := fun h => hz (UInt8.toNat_inj.1 h)
            have HZ := Lib.hid hz
            clear hz
            generalize (bs.getD 1 0).toNat = y at hcell' HV1 hd hy
            have hy1 : ((y : Int) == 0) = false := by simpa using hy
            have HV0 : Hid (valB ((bs.drop 1).take 0) = 0) := rfl
            rw [HV0.out] at HV1 ⊢
            clear hv2
            go_wp2
            go_round
            case rel => exact ⟨1, by omega, by omega, rfl, by rw [HV1.out]; simp, fun _ => HZ.out⟩
            case measure => simp [intOf]
        · have hj11 : (((j : Int) + 1) == 1) = false := by rw [beq_eq_false_iff_ne]; omega
          generalize (bs.getD (j + 1) 0).toNat = y at hcell' HV1 hd
          generalize valB ((bs.drop 1).take j) = v at HV1 hv2
          have hjp : 0 < j := by omega
          clear hj00
          go_wp2
          go_round
          case rel => exact ⟨j + 1, by omega, by omega, by go_num, by rw [HV1.out]; simp, fun _ => HF.out hjp⟩
          case measure => simp [intOf]; omega
    · obtain rfl : j = c := by omega
      have HN := Lib.hid (numP_ok HCE.out hl0 (by omega) (fun h1 _ => HF.out h1) (by omega))
      have hnl : decide ((j : Int) + 1 ≤ (j : Int)) = false := decide_eq_false (by omega)
      generalize valB ((bs.drop 1).take j) = v at HN
      go_wp2
      refine bodyPost_ret (v := .tuple #[.int .i64 v, .int .i64 (1 + (j : Int)), .int .i64 0]) (by simp [results, Try.results30, go_sem]) rfl ?_
      rw [HN.out]
      exact ⟨by simp, rfl⟩
end Go.Proofs.Ytipngfdibcapjaa
