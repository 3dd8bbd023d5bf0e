/-
  A member settles what most have.
-/
import Derived.Test.YtlejbhgginolgaaRaftB
namespace Go.Proofs.Ytlejbhgginolgaa
open Go.RowKit
set_option linter.unusedVariables false
section
variable {w : World} {b : Nat} {a : MA} {m : Mb}
set_option maxRecDepth 100000 in
set_option maxHeartbeats 3200000 in
theorem settle_same (h : MAt w b a m) (hok : MbOk m) : Calls Try.prog 32 #[.pointer (some ⟨b, 0, none⟩)] w fun e w' => e = .returned (.tuple #[]) ∧ MAt w' b a m.settle ∧ Step w b a w' a := by
  obtain ⟨c0, c1, c2, c3, c4, c5, c6, c7, c8, c9, hlt⟩ := box10 h.blk
  have n1 := hok.n1
  have n16 := hok.n16
  have HR := Lib.hid (RowAt.of_own h.prog)
  have HO := Lib.hid h
  go_enter Try.func32, Try.ntmps32
  go_wp2
  go_loopw [2, 10] (fun v i wr => ∃ (k : Nat) (A : Option Addr) (c : Nat), k ≤ m.prog.length ∧ i = .int .i64 (k : Int) ∧ v = .slice A k c ∧ wr.ownsRow w.heap.size 3 1 (.slice A k c) k ((m.prog.take k).map fun p => intV p.1) ∧ Below w.heap.size w wr) (fun _ i _ => m.prog.length - (intOf i).toNat)
  case atStart => exact ⟨0, none, 0, by omega, rfl, rfl, World.ownsRow_nil _ _ _ _, below0 _⟩
  case round =>
    obtain ⟨k, A, c, hk, rfl, rfl, hown, hb⟩ := hrel
    by_cases hlt : k < m.prog.length
    · obtain ⟨p0, p1⟩ := prV_at hlt
      obtain ⟨g, off, hA, glt, d0⟩ := (HR.out.below hb).at p0
      cases hA
      obtain ⟨g', off', hA', glt', d1⟩ := (HR.out.below hb).at p1
      cases hA'
      rw [Nat.zero_add] at d0 d1
      have hk0 : (0 : Int) ≤ (k : Int) := by omega
      have hk1 : (k : Int) < (m.prog.length : Int) := by omega
      have hk2 : (k : Int) ≤ 16 := by omega
      have HT : Hid ((m.prog.take (k + 1)).map (fun p => intV p.1) = (m.prog.take k).map (fun p => intV p.1) ++ [intV (m.prog[k]'hlt).1]) := by rw [Hid, List.take_succ_eq_append_getElem hlt, List.map_append]; rfl
      generalize (m.prog[k]'hlt) = p at d0 d1 HT
      generalize (m.prog.take k).map (fun p => intV p.1) = xs at HT hown
      have hs := hb.size
      have HNEW : Hid (RowAt ((wr.alloc (.cells #[.int .i64 p.1, .int .i64 p.2] 72)).alloc (.cells #[.int .i64 p.1] 3)) (some ⟨wr.heap.size + 1, 0, none⟩) [intV p.1]) := by
        have := RowAt.new (wr.alloc (.cells #[.int .i64 p.1, .int .i64 p.2] 72)) #[.int .i64 p.1] 3
        exact (by simpa [intV] using this : RowAt _ _ _)
      go_wp2_with (at_builtin; refine wpList_append_row rfl (.tmp 14) (.tmp 17) rfl elemI w.heap.size _ k xs (by rfl) (own_below hown (below2 wr _ _)) (some ⟨wr.heap.size + 1, 0, none⟩) 1 1 [intV p.1] (by rfl) (by rfl) HNEW.out (intV_one [p.1]) (by unfold maxLen; omega) (by omega) (by simp; omega) (fun h => by cases h) ?_; intro A1 c1 w1 hown1 hg1 hat1; have hb1 := Below.appended ((hb.trans ((below2 wr (.cells #[.int .i64 p.1, .int .i64 p.2] 72) (.cells #[.int .i64 p.1] 3)).mono hb.size))) (own_below hown (below2 wr _ _)) hg1 (by simp; omega) (Nat.le_refl _))
      go_roundw
      case rel => exact ⟨k + 1, A1, c1, by omega, by go_num, rfl, by rw [HT.out]; exact hown1, hb1⟩
      case measure => simp [intOf]; omega
    · have hk' : k = m.prog.length := by omega
      subst hk'
      rw [List.take_length] at hown
      have h1 := HO.out.below hb
      have hC : Hid (∀ W, Below wr.heap.size wr W → Calls Try.prog 45 #[logV 0 0 a.la m.log.length a.lc, .slice A m.prog.length c, .int .i64 m.term, .int .i64 m.settled] W fun e w' => e = .returned (.int .i64 m.settle.settled) ∧ Below W.heap.size W w') := fun W hW => by
        have h3 : (m.prog.map fun p => p.1).length = m.prog.length := List.length_map ..
        have h4 := commit_any 0 0 a.la a.lc m.log A c (m.prog.map fun p => p.1) m.term m.settled W (LogIn.of_own (own_below h1.log hW)) ⟨(by have := RowAt.of_own (own_below hown hW); unfold CellsI; rw [List.map_map]; exact this), by rw [h3]; exact own_le' hown, fun h => by rw [h3]; exact own_nil' hown h, fun n hn => by
          obtain ⟨p, hp, rfl⟩ := List.mem_map.1 hn
          have := hok.pr p hp
          simp [Lit.wf, IntKind.min, IntKind.max, IntKind.bits, IntKind.signed]
          omega⟩ (by rw [h3]; omega)
        rwa [h3] at h4
      clear c0 c1 c2 c3 c4 c5 c6 c7 c8 c9
      obtain ⟨c0, c1, c2, c3, c4, c5, c6, c7, c8, c9, hlt⟩ := box10 h1.blk
      go_wp2
      go_region_law (first
        | (go_simp; go_at_call 45; refine (hC.out _ (below0 _).drew).mono ?_; rintro e w1 ⟨rfl, hb1⟩; have h2 := (h1.below (below0 _).drew).below hb1; obtain ⟨d0, d1, d2, d3, d4, d5, d6, d7, d8, d9, dlt⟩ := box10 h2.blk; obtain ⟨fr0, fr1, fr2, fr3, fr4, fr5, fr6, fr7, fr8, fr9⟩ := fro9 h2.blk; (try go_simp)))
      all_goals refine bodyPost_end (results_none rfl _ _ _) rfl ?_
      all_goals exact ⟨rfl, h2.store 7 _ rfl rfl rfl rfl, ((Step.of_below hb).below ((below0 _).drew.trans hb1)).store 7 _⟩
theorem settle_any (h : MAt w b a m) (hok : MbOk m) : Calls Try.prog 32 #[.pointer (some ⟨b, 0, none⟩)] w (RetU m.settle b a (.tuple #[]) w) := (settle_same h hok).mono fun e w' ⟨h1, h2, h3⟩ => ⟨a, h1, h2, h3⟩
end
end Go.Proofs.Ytlejbhgginolgaa
