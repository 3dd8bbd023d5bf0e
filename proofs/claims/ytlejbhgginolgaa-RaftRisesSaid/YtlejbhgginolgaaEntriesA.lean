/-
  Layer 4: entries.rising.
-/
import Derived.Test.YtlejbhgginolgaaEntriesMath
import Derived.Test.YtlejbhgginolgaaOpenS
import Derived.Test.YtlejbhgginolgaaBaseR
import Derived.Test.YtlejbhgginolgaaSliceG
namespace Go.Proofs.Ytlejbhgginolgaa
open Go.RowKit
set_option linter.unusedVariables false
/-- An entry of a row, cell by cell. -/
theorem entry_at {w : World} {a : Option Addr} {es : List En} (hr : RowAt w a (ensV es)) {k : Nat} (hk : k < es.length) :
    ∃ b off, a = some ⟨b, off, none⟩ ∧ b < w.heap.size ∧ ∀ j u, (enV es[k])[j]? = some u → w.cell? ⟨b, off + (k * 7 + j), none⟩ = some u := by
  rcases hr with h | ⟨b, off, ha, hlt, hc⟩
  · have := congrArg List.length h
    rw [ensV_length] at this
    simp at this
    omega
  · refine ⟨b, off, ha, hlt, fun j u hj => hc _ _ ?_⟩
    have hj7 : j < 7 := by
      rcases Nat.lt_or_ge j 7 with h | h
      · exact h
      · rw [List.getElem?_eq_none (by rw [enV_length]; exact h)] at hj; cases hj
    rw [ensV_at hk hj7]; exact hj
theorem entry_cells {w : World} {a : Option Addr} {es : List En} (hr : RowAt w a (ensV es)) {k : Nat} (hk : k < es.length) :
    ∃ b off, a = some ⟨b, off, none⟩ ∧ b < w.heap.size ∧ w.cell? ⟨b, off + k * 7, none⟩ = some (.int .i64 (es[k]).1) ∧ w.cell? ⟨b, off + k * 7 + 1, none⟩ = some (.int .i64 (es[k]).2.1) ∧ w.cell? ⟨b, off + k * 7 + 2, none⟩ = some (.int .i64 (es[k]).2.2.1) ∧
      w.cell? ⟨b, off + k * 7 + 3, none⟩ = some (.int .i64 (es[k]).2.2.2.1) ∧ w.cell? ⟨b, off + k * 7 + 4, none⟩ = some (.int .i64 (es[k]).2.2.2.2.1) ∧ w.cell? ⟨b, off + k * 7 + 5, none⟩ = some (.int .i64 (es[k]).2.2.2.2.2.1) ∧ w.cell? ⟨b, off + k * 7 + 6, none⟩ = some (.int .i64 (es[k]).2.2.2.2.2.2) := by
  obtain ⟨b, off, ha, hlt, hc⟩ := entry_at hr hk
  have e : ∀ j, off + k * 7 + j = off + (k * 7 + j) := fun j => by omega
  refine ⟨b, off, ha, hlt, ?_⟩
  rw [e 1, e 2, e 3, e 4, e 5, e 6]
  exact ⟨hc 0 _ rfl, hc 1 _ rfl, hc 2 _ rfl, hc 3 _ rfl, hc 4 _ rfl, hc 5 _ rfl, hc 6 _ rfl⟩
theorem rising_go {es : List En} {f : Int} {k : Nat} (hk : k < es.length) (h1 : 1 ≤ (es[k]).1) (h2 : endT (es.take k) f ≤ (es[k]).1) (h3 : (es[k]).1 ≤ 1073741824) (h : rising (es.take k) f = true) : rising (es.take (k + 1)) f = true := by
  rw [List.take_add_one, List.getElem?_eq_getElem hk, rising_append, h]
  simp [rising, h1, h2, h3]
theorem wrap_next {k n : Nat} (h : k < n) (hm : n ≤ maxLen) : wrap64 ((k : Int) + 1) = ((k + 1 : Nat) : Int) := by
  unfold maxLen at hm
  unfold wrap64
  omega
theorem measure_next {k n : Nat} (hw : wrap64 ((k : Int) + 1) = ((k + 1 : Nat) : Int)) (h : k < n) : n - (intOf (.int .i64 (wrap64 ((k : Int) + 1)))).toNat < n - (intOf (.int .i64 (k : Int))).toNat := by
  rw [hw]
  show n - (((k + 1 : Nat) : Int)).toNat < n - ((k : Int)).toNat
  omega
set_option maxHeartbeats 1600000 in
theorem rising_any (a : Option Addr) (cap : Nat) (es : List En) (f : Int) (w : World) (hr : RowAt w a (ensV es)) (hm : es.length ≤ maxLen) :
    Calls Try.prog 43 #[.slice a es.length cap, .int .i64 f] w fun e w' => e = .returned (.bool (rising es f)) ∧ Below w.heap.size w w' := by
  have HM := Lib.hid hm
  clear hm
  go_enter Try.func43, Try.ntmps43
  go_wp2
  go_loopw [1, 9] (fun v i wr => ∃ (k : Nat) (g : Int), k ≤ es.length ∧ i = .int .i64 k ∧ v = .int .i64 g ∧ Hid (endT (es.take k) f = g) ∧ Hid (rising (es.take k) f = true) ∧ Below w.heap.size w wr) (fun _ i _ => es.length - (intOf i).toNat)
  case atStart => exact ⟨0, f, by omega, rfl, rfl, rfl, rfl, Below.refl _ _⟩
  case round =>
    obtain ⟨k, g, hk, rfl, rfl, HG, HR, hb⟩ := hrel
    by_cases hlt : k < es.length
    · obtain ⟨b, off, rfl, hblt, hc⟩ := entry_cells (hr.below hb) hlt
      have HA : Hid (es[k]? = some (es[k]'hlt)) := List.getElem?_eq_getElem hlt
      have HF : Hid (¬ (1 ≤ (es[k]).1 ∧ g ≤ (es[k]).1 ∧ (es[k]).1 ≤ 1073741824) → rising es f = false) := fun h => rising_false hlt (by rw [HG.out]; exact h)
      have HT : Hid (1 ≤ (es[k]).1 ∧ g ≤ (es[k]).1 ∧ (es[k]).1 ≤ 1073741824 → rising (es.take (k + 1)) f = true) := fun h => rising_go hlt h.1 (by rw [HG.out]; exact h.2.1) h.2.2 HR.out
      have HE : Hid (endT (es.take (k + 1)) f = (es[k]).1) := endT_take hlt f
      generalize (es[k]'hlt) = x at hc HA HF HT HE
      obtain ⟨t, c1, c2, c3, c4, c5, c6⟩ := x
      simp only at hc HA HF HT HE
      obtain ⟨hc0, hc1, hc2, hc3, hc4, hc5, hc6⟩ := hc
      have hk0 : (0 : Int) ≤ (k : Int) := by omega
      have HW : Hid (wrap64 ((k : Int) + 1) = ((k + 1 : Nat) : Int)) := wrap_next hlt HM.out
      have hk1 : (k : Int) < (es.length : Int) := by omega
      by_cases hg : 1 ≤ g
      · by_cases h1 : t < g
        · have HO := Lib.hid (HF.out (by omega))
          clear HF HT HE HA
          go_wp2
          go_ret
          exact ⟨by rw [HO.out]; rfl, hb.alloc hb.size _⟩
        by_cases h2 : 1073741824 < t
        · have HO := Lib.hid (HF.out (by omega))
          clear HF HT HE HA
          go_wp2
          go_ret
          exact ⟨by rw [HO.out]; rfl, hb.alloc hb.size _⟩
        have HT2 := Lib.hid (HT.out (by omega))
        clear HF HT HA
        go_wp2
        go_roundw
        case rel => exact ⟨k + 1, t, by omega, by rw [HW.out], rfl, HE, HT2, hb.alloc hb.size _⟩
        case measure => exact measure_next HW.out hlt
      · by_cases h1 : t < 1
        · have HO := Lib.hid (HF.out (by omega))
          clear HF HT HE HA
          go_wp2
          go_ret
          exact ⟨by rw [HO.out]; rfl, hb.alloc hb.size _⟩
        by_cases h2 : 1073741824 < t
        · have HO := Lib.hid (HF.out (by omega))
          clear HF HT HE HA
          go_wp2
          go_ret
          exact ⟨by rw [HO.out]; rfl, hb.alloc hb.size _⟩
        have HT2 := Lib.hid (HT.out (by omega))
        clear HF HT HA
        go_wp2
        go_roundw
        case rel => exact ⟨k + 1, t, by omega, by rw [HW.out], rfl, HE, HT2, hb.alloc hb.size _⟩
        case measure => exact measure_next HW.out hlt
    · have hek : k = es.length := by omega
      have HO : Hid (rising es f = true) := by have := HR.out; rwa [hek, List.take_length] at this
      clear hek
      go_wp2
      go_ret
      exact ⟨by rw [HO.out]; rfl, hb⟩
end Go.Proofs.Ytlejbhgginolgaa
