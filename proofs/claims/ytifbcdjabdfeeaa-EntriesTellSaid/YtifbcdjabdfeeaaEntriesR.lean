/-
  Layer 4, the document's answer: at most so many entries from an index on.
-/
import Derived.Test.YtifbcdjabdfeeaaEntriesM
import Derived.Test.YtifbcdjabdfeeaaEntriesO
import Derived.Test.YtifbcdjabdfeeaaEntriesP
namespace Go.Proofs.Ytifbcdjabdfeeaa
open Go.RowKit
set_option linter.unusedVariables false
theorem from_done {B : Int} {l : List En} {i most : Int} {n : Nat} (h : i ≤ B ∨ B + (l.length : Int) < i + n ∨ most ≤ n) : (fromL B l i most).length ≤ n := by
  by_cases h0 : i ≤ B ∨ B + (l.length : Int) < i ∨ most ≤ 0
  · rw [fromL_none h0]; simp
  · rw [fromL_some h0, List.length_take, List.length_drop]
    omega
theorem from_more {B : Int} {l : List En} {i most : Int} {n : Nat} (h1 : B < i) (h2 : i + n ≤ B + (l.length : Int)) (h3 : (n : Int) < most) : ∃ hk : (i + (n : Int) - B).toNat - 1 < l.length, ensV ((fromL B l i most).take (n + 1)) = ensV ((fromL B l i most).take n) ++ enV (l[(i + (n : Int) - B).toNat - 1]) := by
  have hk : (i + (n : Int) - B).toNat - 1 < l.length := by omega
  refine ⟨hk, ?_⟩
  rw [fromL_some (by omega), List.take_add_one, List.getElem?_take, if_pos (by omega), List.getElem?_drop, show (i - B - 1).toNat + n = (i + (n : Int) - B).toNat - 1 by omega, List.getElem?_eq_getElem hk, ensV_append]
  simp [ensV]
set_option maxRecDepth 100000 in
set_option maxHeartbeats 3200000 in
theorem refFrom_any (b t : Int) (a : Option Addr) (cap : Nat) (es : List En) (i most : Int) (w : World) (hi : i ≤ 9223372036854775806) (hl : LogIn w a cap es) :
    Calls Try.prog 35 #[logV b t a es.length cap, .int .i64 i, .int .i64 most] w (RetRow 55 7 (fromF b t es i most).length (ensV (fromF b t es i most)) w) := by
  have HM : Hid (∀ W, Below w.heap.size w W → Calls Try.prog 47 #[logV b t a es.length cap] W fun e w' => e = .returned (logV (fairL b t es).1 (fairL b t es).2.1 (fairA b t es a cap).1 (fairL b t es).2.2.length (fairA b t es a cap).2) ∧ Below W.heap.size W w') := fun W h => refFair_any b t a cap es W (hl.below h)
  have hmay := fairL_may b t es
  have hlf := hl.fair b t
  unfold fromF
  clear hl
  generalize fairA b t es a cap = A at HM hlf
  generalize fairL b t es = l at HM hmay hlf
  obtain ⟨B, T, l⟩ := l
  obtain ⟨a', cap'⟩ := A
  simp only at HM hmay hlf ⊢
  obtain ⟨h1, h2, _, _, _, h6, hx⟩ := mayL_true hmay
  have h6' : (l.length : Int) ≤ 64 := by omega
  clear hmay hx
  have HD : Hid (∀ n : Nat, (i ≤ B ∨ B + (l.length : Int) < i + n ∨ most ≤ n) → (fromL B l i most).length ≤ n) := fun n h => from_done h
  have HMo : Hid (∀ n : Nat, B < i → i + n ≤ B + (l.length : Int) → (n : Int) < most → ∃ hk : (i + (n : Int) - B).toNat - 1 < l.length, ensV ((fromL B l i most).take (n + 1)) = ensV ((fromL B l i most).take n) ++ enV (l[(i + (n : Int) - B).toNat - 1])) := fun n h1 h2 h3 => from_more h1 h2 h3
  generalize fromL B l i most = P at *
  have HI := Lib.hid hi
  clear hi
  go_enter Try.func35, Try.ntmps35
  go_wp2_with (go_at_call 47; refine (HM.out _ (below1 _ _)).mono ?_; rintro e w1 ⟨rfl, hb1⟩; have hw1 := (alloc_below hb1))
  go_loopw [8, 9] (fun o c wr => ∃ (n : Nat) (ao : Option Addr) (co : Nat), n ≤ P.length ∧ c = .int .i64 (i + (n : Int)) ∧ o = .slice ao n co ∧ n ≤ 64 ∧ (n = 0 ∨ i + (n : Int) ≤ B + (l.length : Int) + 1) ∧ wr.ownsRow (w1.heap.size + 1) 55 7 (.slice ao n co) n (ensV (P.take n)) ∧ wr.heap[w1.heap.size]? = some (.cells #[.int .i64 B, .int .i64 T, .slice a' l.length cap'] 26) ∧ Below w.heap.size w wr) (fun _ c _ => P.length - (intOf c - i).toNat)
  case atStart => exact ⟨0, none, 0, by omega, by simp, rfl, by omega, .inl rfl, World.ownsRow_nil _ _ _ _, blk_new _ _, hw1.alloc hw1.size _⟩
  case round =>
    obtain ⟨n, ao, co, hn, rfl, rfl, hn64, hbn, hown, g0, hw0⟩ := hrel
    obtain ⟨hc0, hc1, hc2, _, _, _, hlt0⟩ := box3 g0
    have hsz0 := hw0.size
    by_cases c1 : i ≤ B
    · have hnP : n = P.length := Nat.le_antisymm hn (HD.out n (.inl c1))
      subst hnP
      rw [List.take_length] at hown
      go_wp2
      go_ret
      exact ⟨ao, co, rfl, own_base hown (by have := hw1.size; omega), hw0⟩
    have hwk : wrap64 (i + (n : Int) - B) = i + (n : Int) - B := by have := HI.out; unfold wrap64; omega
    by_cases c2 : B + (l.length : Int) < i + (n : Int)
    · have hd2 : decide (i + (n : Int) - B ≤ (l.length : Int)) = false := decide_eq_false (by omega)
      have hnP : n = P.length := Nat.le_antisymm hn (HD.out n (.inr (.inl c2)))
      have HNP := Lib.hid hnP
      have c2' : (l.length : Int) < i + (n : Int) - B := by omega
      clear hnP c2
      go_wp2
      go_ret
      rw [HNP.out, List.take_length] at hown
      exact ⟨ao, co, by rw [HNP.out]; rfl, own_base hown (by have := hw1.size; omega), hw0⟩
    by_cases c3 : most ≤ (n : Int)
    · have hnP : n = P.length := Nat.le_antisymm hn (HD.out n (.inr (.inr c3)))
      have HNP := Lib.hid hnP
      have c2' : i + (n : Int) - B ≤ (l.length : Int) := by omega
      clear hnP c2
      go_wp2
      go_ret
      rw [HNP.out, List.take_length] at hown
      exact ⟨ao, co, by rw [HNP.out]; rfl, own_base hown (by have := hw1.size; omega), hw0⟩
    · obtain ⟨hkl, hT⟩ := HMo.out n (by omega) (by omega) (by omega)
      have hnP : n < P.length := by
        rcases Nat.lt_or_ge n P.length with h | h
        · exact h
        · exfalso
          have := congrArg List.length hT
          rw [List.take_of_length_le (by omega), List.take_of_length_le (by omega), List.length_append, enV_length] at this
          omega
      obtain ⟨g, off, ha, hglt, m0, m1, m2, m3, m4, m5, m6⟩ := entry_cells (hlf.row.below hw0) hkl
      have HEl : Hid ((ensV (P.take n)).length = n * 7) := by rw [Hid, ensV_length, List.length_take, Nat.min_eq_left hn]
      have HTT := Lib.hid hT
      generalize (l[(i + (n : Int) - B).toNat - 1]'hkl) = X at m0 m1 m2 m3 m4 m5 m6 HTT hT
      clear hT
      obtain ⟨X0, X1, X2, X3, X4, X5, X6⟩ := X
      simp only at m0 m1 m2 m3 m4 m5 m6
      subst ha
      have hx0 : 0 ≤ i + (n : Int) - B - 1 := by omega
      have hx1 : i + (n : Int) - B - 1 < l.length := by omega
      have hx2 : i + (n : Int) - B ≤ l.length := by omega
      have c3' : (n : Int) < most := by omega
      have c1' : B < i := by omega
      have hP64 : P.length ≤ 64 := by have := HD.out l.length (.inr (.inl (by omega))); omega
      clear c1 c2 c3 hkl
      go_wp2_with (at_builtin; refine wpList_append_row rfl (.tmp 35) (.tmp 45) rfl elemE (w1.heap.size + 1) (.slice ao n co) n (ensV (P.take n)) (by rfl) (own_below hown (below1 _ _)) (some ⟨wr.heap.size, 0, none⟩) 1 1 [.int .i64 X0, .int .i64 X1, .int .i64 X2, .int .i64 X3, .int .i64 X4, .int .i64 X5, .int .i64 X6] (by rfl) rfl (RowAt.new wr #[.int .i64 X0, .int .i64 X1, .int .i64 X2, .int .i64 X3, .int .i64 X4, .int .i64 X5, .int .i64 X6] 55) (enV_one7 X0 X1 X2 X3 X4 X5 X6) (by unfold maxLen; omega) (by omega) (by simp; omega) (fun h => by cases h) ?_; intro a7 c7 w7 hown7 hg7 hat7)
      have ho := own_below hown (below1 wr (.cells #[.int .i64 X0, .int .i64 X1, .int .i64 X2, .int .i64 X3, .int .i64 X4, .int .i64 X5, .int .i64 X6] 55))
      have hne : (Value.slice ao n co).ownBlock ≠ some w1.heap.size := fun e => by have := (hown.lt _ e).1; omega
      have G0 := blk_grown hg7 (blk_alloc g0 _) hne
      have hw1s := hw1.size
      have hw7 := Below.appended (hw0.alloc hw0.size _) ho hg7 ((hw0.alloc hw0.size _).size) (by omega)
      have hown8 : w7.ownsRow (w1.heap.size + 1) 55 7 (.slice a7 (n + 1) c7) (n + 1) (ensV (P.take (n + 1))) := by rw [HTT.out]; exact hown7
      go_wp2
      go_roundw
      case rel => exact ⟨n + 1, a7, c7, by omega, by go_num, rfl, by omega, .inr (by omega), hown8, G0, hw7⟩
      case measure => simp [intOf]; omega
end Go.Proofs.Ytifbcdjabdfeeaa
