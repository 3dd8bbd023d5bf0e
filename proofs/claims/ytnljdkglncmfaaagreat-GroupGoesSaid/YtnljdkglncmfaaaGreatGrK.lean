/-
  What a group tells.
-/
import Derived.Test.YtnljdkglncmfaaaGreatGrB
import Derived.Test.YtnljdkglncmfaaaGreatGp
namespace Go.Proofs.YtnljdkglncmfaaaGreat
open Go.RowKit
set_option linter.unusedVariables false
section
variable {w : World} {G : Nat} {L : GL} {g : Gr}
theorem has_any (h : GAt w G L g) (i : Nat) (hi : i < g.ms.length) : Calls Tryz.prog 37 #[.pointer (some ⟨G, 0, none⟩), .int .i64 ((i : Int) + 1)] w fun e w' => e = .returned (.bool true) ∧ w' = w := by
  obtain ⟨c0, c1, f0, f1, hlt⟩ := h.cells
  have h0 : (1 : Int) ≤ (i : Int) + 1 := by omega
  have h1 : (i : Int) + 1 ≤ (g.ms.length : Int) := by omega
  clear h
  go_enter Tryz.func37, Tryz.ntmps37
  go_wp2
  go_ret
  exact ⟨rfl, rfl⟩
theorem has_no (h : GAt w G L g) (a : Int) (ha : a < 1 ∨ (g.ms.length : Int) < a) : Calls Tryz.prog 37 #[.pointer (some ⟨G, 0, none⟩), .int .i64 a] w fun e w' => e = .returned (.bool false) ∧ w' = w := by
  obtain ⟨c0, c1, f0, f1, hlt⟩ := h.cells
  by_cases h0 : a < 1
  · clear h ha
    go_enter Tryz.func37, Tryz.ntmps37
    go_wp2
    go_ret
    exact ⟨ret_bool (by simp; try omega), rfl⟩
  · have h1 : (g.ms.length : Int) < a := by omega
    clear h ha
    go_enter Tryz.func37, Tryz.ntmps37
    go_wp2
    go_ret
    exact ⟨ret_bool (by simp; try omega), rfl⟩
theorem waiting_any (h : GAt w G L g) : Calls Tryz.prog 21 #[.pointer (some ⟨G, 0, none⟩)] w fun e w' => e = .returned (.int .i64 (g.net.length : Nat)) ∧ w' = w := by
  obtain ⟨c0, c1, f0, f1, hlt⟩ := h.cells
  clear h
  go_enter Tryz.func21, Tryz.ntmps21
  go_wp2
  go_ret
  exact ⟨rfl, rfl⟩
theorem glen_any (h : GAt w G L g) : Calls Tryz.prog 22 #[.pointer (some ⟨G, 0, none⟩)] w fun e w' => e = .returned (.int .i64 (g.ms.length : Nat)) ∧ w' = w := by
  obtain ⟨c0, c1, f0, f1, hlt⟩ := h.cells
  clear h
  go_enter Tryz.func22, Tryz.ntmps22
  go_wp2
  go_ret
  exact ⟨rfl, rfl⟩
theorem grole_any (h : GAt w G L g) (hn : g.ms.length ≤ 16) {i : Nat} {p : Mb × Vt} (hp : g.ms[i]? = some p) : Calls Tryz.prog 13 #[.pointer (some ⟨G, 0, none⟩), .int .i64 ((i : Int) + 1)] w fun e w' => e = .returned (.int .i64 p.1.role) ∧ Below w.heap.size w w' := by
  have hi : i < g.ms.length := (List.getElem?_eq_some_iff.1 hp).1
  obtain ⟨q, hq⟩ := h.slots hi
  have HHA := Lib.hid (has_any h i hi)
  have HOF := Lib.hid (of_any h i hi hn)
  obtain ⟨c0, c1, f0, f1, hlt⟩ := h.ptrs hq
  have HRO := Lib.hid (role_any (h.mem i q p hq hp).1)
  clear h
  go_enter Tryz.func13, Tryz.ntmps13
  go_wp2_with (first
    | (go_at_call 37; refine HHA.out.mono ?_; rintro e wx ⟨rfl, hwx⟩; subst hwx)
    | (go_at_call 29; refine HOF.out.mono ?_; rintro e wx ⟨rfl, hwx⟩; subst hwx)
    | (go_at_call 38; refine HRO.out.mono ?_; rintro e w1 ⟨rfl, hb1⟩))
  go_ret
  exact ⟨rfl, hb1⟩
theorem gballot_any (h : GAt w G L g) (hn : g.ms.length ≤ 16) {i : Nat} {p : Mb × Vt} (hp : g.ms[i]? = some p) : Calls Tryz.prog 14 #[.pointer (some ⟨G, 0, none⟩), .int .i64 ((i : Int) + 1)] w fun e w' => e = .returned (ballotV p.1.term p.1.vote) ∧ Below w.heap.size w w' := by
  have hi : i < g.ms.length := (List.getElem?_eq_some_iff.1 hp).1
  obtain ⟨q, hq⟩ := h.slots hi
  have hal := below1 w (.cells #[.int .i64 0, .int .i64 0] 34)
  have gB := blk_new w (.cells #[.int .i64 0, .int .i64 0] 34)
  have h1 := h.below hal
  have HHA := Lib.hid (has_any h1 i hi)
  have HOF := Lib.hid (of_any h1 i hi hn)
  obtain ⟨c0, c1, f0, f1, hlt⟩ := h1.ptrs hq
  have HBA := Lib.hid (ballot_any (h1.mem i q p hq hp).1)
  obtain ⟨b0, b1, bf0, bf1, blt⟩ := box2 gB
  clear h h1
  go_enter Tryz.func14, Tryz.ntmps14
  go_wp2_with (first
    | (go_at_call 37; refine HHA.out.mono ?_; rintro e wx ⟨rfl, hwx⟩; subst hwx)
    | (go_at_call 29; refine HOF.out.mono ?_; rintro e wx ⟨rfl, hwx⟩; subst hwx)
    | (go_at_call 39; refine HBA.out.mono ?_; rintro e w2 ⟨rfl, hb2⟩; have g2 := blk_keep hb2 gB; obtain ⟨d0, d1, df0, df1, dlt⟩ := box2 g2))
  obtain ⟨k0, k1, _⟩ := box2 (set2_blk g2 (.int .i64 p.1.term) (.int .i64 p.1.vote))
  refine bodyPost_ret (v := ballotV p.1.term p.1.vote) (by simp [results, Tryz.results14, go_sem, k0, k1, ballotV]) rfl ?_
  exact ⟨rfl, set2_below (hal.trans (hb2.mono hal.size)) (Nat.le_refl _) _ _⟩
theorem glog_any (h : GAt w G L g) (hn : g.ms.length ≤ 16) {i : Nat} {p : Mb × Vt} (hp : g.ms[i]? = some p) (hl : p.1.log.length ≤ 64) : Calls Tryz.prog 15 #[.pointer (some ⟨G, 0, none⟩), .int .i64 ((i : Int) + 1)] w (RetRow 42 7 p.1.log.length (ensV p.1.log) w) := by
  have hi : i < g.ms.length := (List.getElem?_eq_some_iff.1 hp).1
  obtain ⟨q, hq⟩ := h.slots hi
  have HHA := Lib.hid (has_any h i hi)
  have HOF := Lib.hid (of_any h i hi hn)
  obtain ⟨c0, c1, f0, f1, hlt⟩ := h.ptrs hq
  have HLO := Lib.hid (mlog_any (h.mem i q p hq hp).1 hl)
  have hfl : ∀ (A : Option Addr) (n c : Nat) (W : World), (Instr.field 55 (logV 0 0 A n c) 2).run Tryz.prog W = .ok (.slice A n c) W := fun A n c W => by kernel_rfl
  clear h
  go_enter Tryz.func15, Tryz.ntmps15
  go_wp2_with (first
    | (go_at_call 37; refine HHA.out.mono ?_; rintro e wx ⟨rfl, hwx⟩; subst hwx)
    | (go_at_call 29; refine HOF.out.mono ?_; rintro e wx ⟨rfl, hwx⟩; subst hwx)
    | (go_at_call 40; refine HLO.out.mono ?_; rintro e w1 ⟨A1, cc1, rfl, own1, hb1⟩))
  go_ret
  exact ⟨A1, cc1, rfl, own1, hb1⟩
end
theorem World.ownsRow_take {w : World} {base : Nat} {A : Option Addr} {cap k : Nat} {es : List En} (h : w.ownsRow base 42 7 (.slice A es.length cap) es.length (ensV es)) (hk : k ≤ es.length) (hc : es.length ≤ cap) : w.ownsRow base 42 7 (.slice A k cap) k (ensV (es.take k)) := by
  obtain ⟨h1, h2⟩ := h
  refine ⟨by rw [ensV_length, List.length_take, Nat.min_eq_left hk], ?_⟩
  rcases h2 with ⟨hv, h0⟩ | ⟨g, c, cur, hv, hg, hh, hnc, hcm, hsz, ht⟩
  · injection hv with e1 e2 e3
    exact .inl ⟨by rw [e1, e3, show k = 0 by omega], by omega⟩
  · injection hv with e1 e2 e3
    subst e3
    refine .inr ⟨g, cap, cur, by rw [e1], hg, hh, by omega, hcm, hsz, ?_⟩
    rw [← ensV_take, ← ht, List.take_take, Nat.min_eq_left (Nat.mul_le_mul_right 7 hk)]
/-- The entries of a member that are settled. -/
def settledE (m : Mb) : List En := m.log.take m.settled.toNat
set_option maxRecDepth 100000 in
set_option maxHeartbeats 6400000 in
theorem gsettled_any {w : World} {G : Nat} {L : GL} {g : Gr} (h : GAt w G L g) (hn : g.ms.length ≤ 16) {i : Nat} {p : Mb × Vt} (hp : g.ms[i]? = some p) (hl : p.1.log.length ≤ 64) (hs0 : 0 ≤ p.1.settled) (hs64 : p.1.settled ≤ 64) : Calls Tryz.prog 17 #[.pointer (some ⟨G, 0, none⟩), .int .i64 ((i : Int) + 1)] w (RetRow 42 7 (settledE p.1).length (ensV (settledE p.1)) w) := by
  have hi : i < g.ms.length := (List.getElem?_eq_some_iff.1 hp).1
  obtain ⟨q, hq⟩ := h.slots hi
  have HLG := Lib.hid (glog_any h hn hp hl)
  have HG := Lib.hid h
  clear h
  by_cases h0 : p.1.log.length = 0
  · have e1 : settledE p.1 = [] := by unfold settledE; rw [List.eq_nil_of_length_eq_zero h0, List.take_nil]
    rw [e1]
    rw [h0] at HLG
    go_enter Tryz.func17, Tryz.ntmps17
    go_wp2_with (go_at_call 15; refine HLG.out.mono ?_; rintro e w1 ⟨A1, cc1, rfl, own1, hb1⟩)
    go_ret
    exact ⟨none, 0, rfl, World.ownsRow_nil _ _ _ _, hb1⟩
  · obtain ⟨N, hN⟩ : ∃ N : Nat, min (p.1.log.length : Int) p.1.settled = (N : Int) := ⟨(min (p.1.log.length : Int) p.1.settled).toNat, by omega⟩
    have hlen : (settledE p.1).length = N := by unfold settledE; rw [List.length_take]; omega
    have hens : settledE p.1 = p.1.log.take N := by
      unfold settledE
      by_cases hc : p.1.settled.toNat ≤ p.1.log.length
      · rw [show p.1.settled.toNat = N by omega]
      · rw [List.take_of_length_le (by omega), List.take_of_length_le (by omega)]
    rw [hlen, hens]
    have hN1 : N ≤ p.1.log.length := by omega
    have hl0 : ((p.1.log.length : Int) == 0) = false := by rw [beq_eq_false_iff_ne]; omega
    have hn0 : (p.1.log.length == 0) = false := by rw [beq_eq_false_iff_ne]; omega
    go_enter Tryz.func17, Tryz.ntmps17
    go_upto_region 4 with (go_at_call 15; refine HLG.out.mono ?_; rintro e w1 ⟨A1, cc1, rfl, own1, hb1⟩)
    have h1 := HG.out.below hb1
    have HOF := Lib.hid (of_any h1 i hi hn)
    obtain ⟨c0, c1, f0, f1, hlt⟩ := h1.ptrs hq
    have HSE := Lib.hid (settled_any (h1.mem i q p hq hp).1)
    have hcap : p.1.log.length ≤ cc1 := (LogIn.of_own own1).cap
    have hsl : ∀ W, (Instr.slice 37 (.slice A1 p.1.log.length cc1) none (some (.int .i64 (min (p.1.log.length : Int) p.1.settled))) none).run Tryz.prog W = .ok (.slice A1 N cc1) W := fun W => by
      rw [hN]
      exact slice_toS (P := Tryz.prog) elemE A1 p.1.log.length cc1 N (by omega) W
    clear h1
    go_wp2_with (first
      | (go_at_call 29; refine HOF.out.mono ?_; rintro e wx ⟨rfl, hwx⟩; subst hwx)
      | (go_at_call 41; refine HSE.out.mono ?_; rintro e w2 ⟨rfl, hb2⟩))
    go_ret
    exact ⟨A1, cc1, rfl, World.ownsRow_take (own_below own1 hb2) hN1 hcap, hb1.trans (hb2.mono hb1.size)⟩
end Go.Proofs.YtnljdkglncmfaaaGreat
