/-
  Layer 6's laws: QuorumGrows.
-/
import Derived.Test.YtgiokifnapbflaaQuorumD
namespace Go.Proofs.Ytgiokifnapbflaa
open Go.RowKit
set_option linter.unusedVariables false
theorem own_none' {w : World} {base : Nat} {e : TypeId} {size : Nat} {A : Option Addr} {n cap : Nat} {xs : List Value} (h : w.ownsRow base e size (.slice A n cap) n xs) : A = none → n = 0 := fun ha => by
  rcases h.2 with ⟨_, h0⟩ | ⟨g, c, cur, hv, _⟩
  · exact h0
  · cases hv; cases ha
set_option maxRecDepth 100000 in
set_option maxHeartbeats 6400000 in
theorem quorumGrows_walk (a : Option Addr) (cap : Nat) (ns : List Int) (a' : Option Addr) (cap' : Nat) (ks : List Int) (i : Int) (w : World) (hi : IntsIn w a cap ns) (hk : IntsIn w a' cap' ks) :
    Calls Try.prog 6 #[.slice a ns.length cap, .slice a' ks.length cap', .int .i64 i] w fun e w' => e = .returned (.bool true) ∧ Below w.heap.size w w' := by
  by_cases h1 : (100 : Int) < (ns.length : Int)
  · clear hi hk
    go_enter Try.func6, Try.ntmps6
    go_wp2_with (go_at_call 7; refine (quorumAwake_any _).mono ?_; rintro en w1 ⟨rfl, hw1⟩)
    go_ret
    exact ⟨rfl, hw1⟩
  by_cases h2 : ns.length = ks.length
  rotate_left 1
  · have h2' : ((ns.length : Int) != (ks.length : Int)) = true := by simp; omega
    clear hi hk h2
    go_enter Try.func6, Try.ntmps6
    go_wp2_with (go_at_call 7; refine (quorumAwake_any _).mono ?_; rintro en w1 ⟨rfl, hw1⟩)
    go_ret
    exact ⟨rfl, hw1⟩
  have h2' : ((ns.length : Int) != (ks.length : Int)) = false := by simp [h2]
  have H2 := Lib.hid h2
  have hl100 : ns.length ≤ 100 := by omega
  obtain ⟨Z, hZ⟩ : ∃ Z, Z = List.zipWith (· + ·) ns ks := ⟨_, rfl⟩
  have hzl : Z.length = ns.length := by rw [hZ, List.length_zipWith, ← h2, Nat.min_self]
  have HZL := Lib.hid hzl
  have HZ := Lib.hid hZ
  have hkl : ks.length ≤ 100 := by omega
  have HI := Lib.hid hi
  have HK := Lib.hid hk
  clear h2 hi hk hzl hZ
  go_enter Try.func6, Try.ntmps6
  go_wp2_with (go_at_call 7; refine (quorumAwake_any _).mono ?_; rintro en w1 ⟨rfl, hw1⟩)
  go_loopw [8, 9] (fun v k wr => ∃ (j : Nat) (aS : Option Addr) (cS : Nat), j ≤ ns.length ∧ k = .int .i64 (j : Int) ∧ v = .slice aS j cS ∧ Hid (∀ x ∈ ks.take j, 0 ≤ x) ∧ wr.ownsRow w.heap.size 3 1 (.slice aS j cS) j ((Z.take j).map intV) ∧ Below w.heap.size w wr) (fun _ k _ => ns.length - (intOf k).toNat)
  case atStart => exact ⟨0, none, 0, by omega, rfl, rfl, fun x hx => by simp at hx, World.ownsRow_nil _ _ _ _, hw1⟩
  case round =>
    obtain ⟨j, aS, cS, hj, rfl, rfl, HP, hown, hw0⟩ := hrel
    by_cases hlt : j < ns.length
    · obtain ⟨b, off, rfl, hblt, hx0⟩ := HI.out.cells.at hlt
      have hltk : j < ks.length := by have := H2.out; omega
      obtain ⟨b', off', rfl, hblt', hy0⟩ := HK.out.cells.at hltk
      have hx := ((bcell hw0).1 b (off + j) hblt).trans hx0
      have hy := ((bcell hw0).1 b' (off' + j) hblt').trans hy0
      have hzj : Z.take (j + 1) = Z.take j ++ [(ns[j]'hlt) + (ks[j]'hltk)] := by
        have hjz : j < Z.length := by have := HZL.out; omega
        rw [List.take_succ_eq_append_getElem hjz]
        congr 2
        simp [HZ.out]
      have hpj : 0 ≤ ks[j]'hltk → ∀ x ∈ ks.take (j + 1), 0 ≤ x := fun h x hx => by
        rw [List.take_succ_eq_append_getElem hltk] at hx
        rcases List.mem_append.1 hx with h' | h'
        · exact HP.out x h'
        · rw [List.mem_singleton.1 h']; exact h
      have HZJ := Lib.hid hzj
      have HPJ := Lib.hid hpj
      clear hzj hpj
      generalize (ns[j]'hlt) = x at hx HZJ hx0
      generalize (ks[j]'hltk) = y at hy HZJ HPJ hy0
      have hj0 : (0 : Int) ≤ (j : Int) := by omega
      have hj1 : (j : Int) < (ns.length : Int) := by omega
      have hj2 : (j : Int) < (ks.length : Int) := by omega
      by_cases c1 : y < 0
      · go_wp2
        go_ret
        exact ⟨rfl, hw0⟩
      by_cases c2 : 1000 < y
      · go_wp2
        go_ret
        exact ⟨rfl, hw0⟩
      by_cases c3 : x < -1000000
      · go_wp2
        go_ret
        exact ⟨rfl, hw0⟩
      by_cases c4 : 1000000 < x
      · go_wp2
        go_ret
        exact ⟨rfl, hw0⟩
      have d1 : -9223372036854775808 ≤ x + y ∧ x + y ≤ 9223372036854775807 := by omega
      have hbs := hw0.size
      have hyp : 0 ≤ y := by omega
      have dd1 : decide (y < 0) = false := decide_eq_false c1
      have dd2 : decide (1000 < y) = false := decide_eq_false c2
      have dd3 : decide (x < -1000000) = false := decide_eq_false c3
      have dd4 : decide (1000000 < x) = false := decide_eq_false c4
      have hwr := wrap_id d1.1 d1.2
      have HWR := Lib.hid hwr
      clear hwr d1 c1 c2 c3 c4
      go_wp2
      clear dd1 dd2 dd3 dd4
      have hwr := HWR.out
      go_region_held3 (fun W => W.cell? ⟨b, off + j, none⟩ = some (.int .i64 x) ∧ W.cell? ⟨b', off' + j, none⟩ = some (.int .i64 y)) (first | exact ⟨hx, hy⟩ | exact ⟨kx, ky⟩ | go_keep) ((refine step_append_row rfl (.tmp 60) (.tmp 70) rfl elemI w.heap.size (.slice aS j cS) j ((Z.take j).map intV) (by rfl) (own_below (own_drawn hown) (below1 wr.drew (.cells #[.int .i64 (x + y)] 3))) (some ⟨wr.heap.size, 0, none⟩) 1 1 [.int .i64 (x + y)] (by rfl) (by rfl) (RowAt.new wr.drew #[.int .i64 (x + y)] 3) (intV_one [x + y]) (by unfold maxLen; omega) (by omega) (by simp; omega) (fun h => by cases h) ?_; intro a2 c2 w2 hown2 hg2 hat2; have hw2 : Below w.heap.size w w2 := Below.appended (hw0.drew.alloc hw0.drew.size (.cells #[.int .i64 (x + y)] 3)) (own_below (own_drawn hown) (below1 wr.drew (.cells #[.int .i64 (x + y)] 3))) hg2 (hw0.drew.alloc hw0.drew.size (.cells #[.int .i64 (x + y)] 3)).size (Nat.le_refl _); have kx := ((bcell hw2).1 b (off + j) hblt).trans hx0; have ky := ((bcell hw2).1 b' (off' + j) hblt').trans hy0))
      clear hwr
      go_wp2
      have hown3 : w2.ownsRow w.heap.size 3 1 (.slice a2 (j + 1) c2) (j + 1) ((Z.take (j + 1)).map intV) := by rw [HZJ.out, List.map_append]; exact hown2
      go_roundw
      case rel => exact ⟨j + 1, a2, c2, by omega, by go_num, rfl, HPJ.out hyp, hown3, hw2⟩
      case measure => simp [intOf]; omega
    · obtain rfl : j = ns.length := by omega
      have hks := HP.out
      rw [H2.out, List.take_length] at hks
      have hZr := HZ.out
      have e1 := held_grows H2.out hks i
      have e2 := most_grows H2.out hks
      rw [← hZr] at e1 e2
      rw [← HZL.out, List.take_length] at hown
      rw [HZL.out] at hown
      have hM1 : Hid (∀ W, Calls Try.prog 8 #[.int .i64 (ns.length : Int)] W fun e w' => e = .returned (.int .i64 (majN ns.length : Nat)) ∧ W = w') := fun W => by
        have := majority_any (ns.length : Int) (by omega) (by omega) W
        by_cases h0 : ns.length = 0
        · rw [if_pos (by omega)] at this
          unfold majN
          rwa [h0, show ((0 / 2 + 1 : Nat) : Int) = 1 from rfl, ← h0]
        · rw [if_neg (by omega)] at this
          unfold majN
          rwa [show ((ns.length / 2 + 1 : Nat) : Int) = (ns.length : Int) / 2 + 1 by omega]
      have hM2 : Hid (∀ W, Calls Try.prog 8 #[.int .i64 ((ns.length : Int) + 1)] W fun e w' => e = .returned (.int .i64 (majN (ns.length + 1) : Nat)) ∧ W = w') := fun W => by
        have := majority_any ((ns.length : Int) + 1) (by omega) (by omega) W
        rw [if_neg (by omega)] at this
        unfold majN
        rwa [show (((ns.length + 1) / 2 + 1 : Nat) : Int) = ((ns.length : Int) + 1) / 2 + 1 by omega]
      have q1 : majN ns.length ≤ majN (ns.length + 1) ∧ majN (ns.length + 1) ≤ majN ns.length + 1 ∧ ns.length < 2 * majN ns.length ∧ majN ns.length ≤ 51 := by unfold majN; omega
      have hHs : Hid (∀ W A c, CellsI W A Z → Calls Try.prog 10 #[.slice A ns.length c, .int .i64 i] W fun e w' => e = .returned (.int .i64 (heldN Z i)) ∧ W = w') := fun W A c h => by
        have := held_any A c Z i W h (by have := HZL.out; omega)
        rwa [HZL.out] at this
      have hHm : Hid (∀ W, Below w.heap.size w W → Calls Try.prog 10 #[.slice a ns.length cap, .int .i64 i] W fun e w' => e = .returned (.int .i64 (heldN ns i)) ∧ W = w') := fun W h => held_any a cap ns i W (HI.out.cells.below h) (by omega)
      have hOs : Hid (∀ W A c, CellsI W A Z → (A = none → ns.length = 0) → Calls Try.prog 12 #[.slice A ns.length c] W fun e w' => e = .returned (.int .i64 (mostL Z)) ∧ Below W.heap.size W w') := fun W A c h h' => by
        have := most_any A c Z W h (by rw [HZL.out]; exact h') (by have := HZL.out; omega)
        rwa [HZL.out] at this
      have hOm : Hid (∀ W, Below w.heap.size w W → Calls Try.prog 12 #[.slice a ns.length cap] W fun e w' => e = .returned (.int .i64 (mostL ns)) ∧ Below W.heap.size W w') := fun W h => most_any a cap ns W (HI.out.cells.below h) HI.out.none_ (by omega)
      clear HP HZ HI HK hks hZr
      generalize majN ns.length = q at hM1 q1
      generalize majN (ns.length + 1) = q' at hM2 q1
      generalize heldN Z i = x at hHs e1
      generalize heldN ns i = y at hHm e1
      generalize mostL Z = m at hOs e2
      generalize mostL ns = m' at hOm e2
      have e1' : (y : Int) ≤ (x : Int) := by omega
      have q2 : (q : Int) ≤ (q' : Int) := by omega
      have q3 : (q' : Int) ≤ (q : Int) + 1 := by omega
      have q4 : (ns.length : Int) < 2 * (q : Int) := by omega
      have q5 : (q : Int) ≤ 51 := by omega
      have hc : CellsI wr aS Z := RowAt.of_own hown
      have hn := own_none' hown
      go_wp2_with (first
        | (go_at_call 8; (with_reducible refine (hM1.out _).mono ?_); rintro en w3 ⟨rfl, rfl⟩)
        | (go_at_call 8; (with_reducible refine (hM2.out _).mono ?_); rintro en w3 ⟨rfl, rfl⟩)
        | (go_at_call 10; (with_reducible refine (hHs.out _ _ _ hc).mono ?_); rintro en w3 ⟨rfl, rfl⟩)
        | (go_at_call 10; (with_reducible refine (hHm.out _ hw0).mono ?_); rintro en w3 ⟨rfl, rfl⟩)
        | (go_at_call 12; (with_reducible refine (hOs.out _ _ _ hc hn).mono ?_); rintro en w4 ⟨rfl, hb4⟩; have hw4 := hw0.trans (hb4.mono hw0.size))
        | (go_at_call 12; (with_reducible refine (hOm.out _ hw4).mono ?_); rintro en w5 ⟨rfl, hb5⟩; have hw5 := hw4.trans (hb5.mono hw4.size)))

      go_ret
      exact ⟨by simp, hw5⟩
end Go.Proofs.Ytgiokifnapbflaa
