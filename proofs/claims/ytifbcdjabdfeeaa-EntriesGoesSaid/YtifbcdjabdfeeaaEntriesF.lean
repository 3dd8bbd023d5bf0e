/-
  Layer 4, the document's answer: rising terms, which log may be.
-/
import Derived.Test.YtifbcdjabdfeeaaEntriesE
namespace Go.Proofs.Ytifbcdjabdfeeaa
open Go.RowKit
set_option linter.unusedVariables false
set_option maxHeartbeats 1600000 in
theorem refRising_any (a : Option Addr) (cap : Nat) (es : List En) (f : Int) (w : World) (hr : RowAt w a (ensV es)) (hm : es.length ≤ maxLen) :
    Calls Try.prog 46 #[.slice a es.length cap, .int .i64 f] w fun e w' => e = .returned (.bool (rising es f)) ∧ w' = w := by
  have HM := Lib.hid hm
  clear hm
  go_enter Try.func46, Try.ntmps46
  go_wp2
  go_loopw [5, 6] (fun v i wr => ∃ (k : Nat) (g : Int), k ≤ es.length ∧ i = .int .i64 k ∧ v = .int .i64 g ∧ Hid (endT (es.take k) f = g) ∧ Hid (rising (es.take k) f = true) ∧ wr = w) (fun _ i _ => es.length - (intOf i).toNat)
  case atStart => exact ⟨0, f, by omega, rfl, rfl, rfl, rfl, rfl⟩
  case round =>
    obtain ⟨k, g, hk, rfl, rfl, HG, HR, rfl⟩ := hrel
    by_cases hlt : k < es.length
    · obtain ⟨b, off, rfl, hblt, hc⟩ := entry_cells (hr) hlt
      have HA : Hid (es[k]? = some (es[k]'hlt)) := List.getElem?_eq_getElem hlt
      have HF : Hid (¬ (1 ≤ (es[k]).1 ∧ g ≤ (es[k]).1 ∧ (es[k]).1 ≤ 1073741824) → rising es f = false) := fun h => rising_false hlt (by rw [HG.out]; exact h)
      have HT : Hid (1 ≤ (es[k]).1 ∧ g ≤ (es[k]).1 ∧ (es[k]).1 ≤ 1073741824 → rising (es.take (k + 1)) f = true) := fun h => rising_go hlt h.1 (by rw [HG.out]; exact h.2.1) h.2.2 HR.out
      have HE : Hid (endT (es.take (k + 1)) f = (es[k]).1) := endT_take hlt f
      generalize (es[k]'hlt) = x at hc HA HF HT HE
      obtain ⟨t, c1, c2, c3, c4, c5, c6⟩ := x
      simp only at hc HA HF HT HE
      obtain ⟨hc0, hc1, hc2, hc3, hc4, hc5, hc6⟩ := hc
      have hk0 : (0 : Int) ≤ (k : Int) := by omega
      have HW : Hid (wrap64 ((k : Int) + 1) = ((k + 1 : Nat) : Int)) := wrap_next hlt HM.out
      have hk1 : (k : Int) < (es.length : Int) := by omega
      clear hc1 hc2 hc3 hc4 hc5 hc6
      by_cases h1 : t < 1
      · have HO := Lib.hid (HF.out (by omega))
        clear HF HT HE HA
        go_wp2
        go_ret
        exact ⟨by rw [HO.out]; rfl, rfl⟩
      by_cases h2 : 1073741824 < t
      · have HO := Lib.hid (HF.out (by omega))
        clear HF HT HE HA
        go_wp2
        go_ret
        exact ⟨by rw [HO.out]; rfl, rfl⟩
      by_cases h3 : t < g
      · have HO := Lib.hid (HF.out (by omega))
        clear HF HT HE HA
        go_wp2
        go_ret
        exact ⟨by rw [HO.out]; rfl, rfl⟩
      have HT2 := Lib.hid (HT.out (by omega))
      clear HF HT HA
      go_wp2
      go_roundw
      case rel => exact ⟨k + 1, t, by omega, by rw [HW.out], rfl, HE, HT2, trivial⟩
      case measure => exact measure_next HW.out hlt
    · have hek : k = es.length := by omega
      have HO : Hid (rising es f = true) := by have := HR.out; rwa [hek, List.take_length] at this
      clear hek
      go_wp2
      go_ret
      exact ⟨by rw [HO.out]; rfl, rfl⟩
set_option maxHeartbeats 1600000 in
theorem refMay_any (b t : Int) (a : Option Addr) (cap : Nat) (es : List En) (w : World) (hl : LogIn w a cap es) :
    Calls Try.prog 38 #[logV b t a es.length cap] w fun e w' => e = .returned (.bool (mayL b t es)) ∧ Below w.heap.size w w' := by
  have HR : Hid (∀ o, Calls Try.prog 46 #[.slice a es.length cap, .int .i64 t] (w.alloc o) fun e w' => e = .returned (.bool (rising es t)) ∧ w' = w.alloc o) := fun o => refRising_any a cap es t _ (hl.row.alloc o) hl.max
  have HM : Hid (mayL b t es = (rising es t && decide (0 ≤ b) && decide (b ≤ 1099511627776) && decide (0 ≤ t) && decide (t ≤ 1073741824) && (decide (0 < b) || t == 0) && decide ((es.length : Int) ≤ 64))) := by
    unfold mayL
    rw [Hid, Bool.and_comm, Bool.and_assoc, Bool.and_assoc, Bool.and_assoc, Bool.and_assoc, Bool.and_assoc]
    congr 1
    rw [Bool.eq_iff_iff]
    simp only [decide_eq_true_eq, Bool.and_eq_true, Bool.or_eq_true, beq_iff_eq]
    omega
  rw [HM.out]
  generalize rising es t = R at HR
  clear hl HM
  go_enter Try.func38, Try.ntmps38
  go_wp2_with (go_at_call 46; refine (HR.out _).mono ?_; rintro e w1 ⟨rfl, rfl⟩)
  all_goals (go_ret; refine ⟨ret_bool ?_, below1 _ _⟩)
  all_goals (simp_all; try omega)
end Go.Proofs.Ytifbcdjabdfeeaa
