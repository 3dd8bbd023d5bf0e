/-
  The law of crashes.
-/
import Derived.Test.YtnljdkglncmfaaaGreatGrP
import Derived.Test.YtnljdkglncmfaaaGreatGrQ
import Derived.Test.YtnljdkglncmfaaaGreatBd
namespace Go.Proofs.YtnljdkglncmfaaaGreat
open Go.RowKit
set_option linter.unusedVariables false
/-- A member that crashed when it had made all last. -/
theorem crash_at {g : Gr} (h : GrOk g) {i : Nat} {p : Mb × Vt} (hp : g.ms[i]? = some p) (keep : Int) : (g.crash ((i : Int) + 1) keep).ms[i]? = some (newMb ((i : Int) + 1) g.ms.length p.1.term p.1.vote p.1.log, p.2) ∧ (g.crash ((i : Int) + 1) keep).net = g.net ∧ (g.crash ((i : Int) + 1) keep).ms.length = g.ms.length := by
  have hi : i < g.ms.length := (List.getElem?_eq_some_iff.1 hp).1
  have hpo := h.pair i p hp
  unfold Gr.crash Gr.anew Gr.set
  rw [at_idx hp, show ((i : Int) + 1 - 1).toNat = i by omega, hpo.crash0 keep]
  refine ⟨?_, rfl, List.length_set⟩
  rw [List.getElem?_set, if_pos rfl, if_pos hi]
  unfold fresh
  rw [hpo.holds]
/-- What one who runs items holds. -/
structure Ran (n k : Nat) (g : Gr) : Prop where
  ok : GrOk g
  many : g.ms.length = n
  net : g.net.length ≤ 16 * k
theorem Ran.next {n k : Nat} {g : Gr} (h : Ran n k g) (m : It) : Ran n (k + 1) (g.item m) := ⟨h.ok.does _ _ _ _, by rw [← h.many]; exact does_len _ _ _ _, by have := does_net h.ok m.1 m.2.1 m.2.2.1 m.2.2.2; have := h.net; show (g.does _ _ _ _).1.net.length ≤ _; omega⟩
theorem Ran.new {n : Nat} (h1 : 1 ≤ n) (h16 : n ≤ 16) : Ran n 0 (newGr n) := ⟨newGr_ok h1 h16, by simp [newGr], Nat.zero_le _⟩
set_option maxRecDepth 100000 in
set_option maxHeartbeats 6400000 in
theorem groupCrashes_walk (many : Int) (ia : Option Addr) (ic : Nat) (its : List It) (id keep : Int) (w : World) (hits : ItemsIn w ia ic its) :
    Calls Tryz.prog 8 #[.int .i64 many, .slice ia its.length ic, .int .i64 id, .int .i64 keep] w fun e w' => e = .returned (.bool true) ∧ Below w.heap.size w w' := by
  by_cases hmany : many < 1 ∨ 16 < many
  · have HN : Hid (∀ W, Calls Tryz.prog 11 #[.int .i64 many] W fun e w' => e = .returned (.tuple #[.pointer none, .int .i64 1]) ∧ w' = W) := fun W => gnew_no many W hmany
    clear hits hmany
    by_cases q120 : 120 < (its.length : Int)
    all_goals (
      go_enter Tryz.func8, Tryz.ntmps8
      go_wp2_with (first
        | (go_at_call 10; refine (groupAwake_any _).mono ?_; rintro e w1 ⟨rfl, hb1⟩)
        | (go_at_call 11; refine (HN.out _).mono ?_; rintro e wx ⟨rfl, hwx⟩; subst hwx))
      go_ret
      exact ⟨rfl, hb1⟩)
  obtain ⟨n, rfl⟩ : ∃ n : Nat, many = (n : Int) := ⟨many.toNat, by omega⟩
  have hn1 : 1 ≤ n := by omega
  have hn16 : n ≤ 16 := by omega
  have HN : Hid (∀ W, Calls Tryz.prog 11 #[.int .i64 (n : Int)] W (RetGr n W)) := fun W => gnew_any n W hn1 hn16
  by_cases hquit : 120 < (its.length : Int) ∨ id < 1 ∨ (n : Int) < id
  · clear hits hmany
    have go : (120 < (its.length : Int)) ∨ (¬ 120 < (its.length : Int) ∧ id < 1) ∨ (¬ 120 < (its.length : Int) ∧ ¬ id < 1 ∧ (n : Int) < id) := by omega
    clear hquit
    rcases go with q1 | ⟨q1, q2⟩ | ⟨q1, q2, q3⟩
    all_goals (
      go_enter Tryz.func8, Tryz.ntmps8
      go_wp2_with (first
        | (go_at_call 10; refine (groupAwake_any _).mono ?_; rintro e w1 ⟨rfl, hb1⟩)
        | (go_at_call 11; refine (HN.out _).mono ?_; rintro e w2 ⟨G, L, rfl, h2, hf2, hb2⟩; have hw2 := hb1.trans (hb2.mono hb1.size)))
      go_ret
      exact ⟨rfl, hw2⟩)
  have q1 : ¬ 120 < (its.length : Int) := fun h => hquit (.inl h)
  have q2 : ¬ id < 1 := fun h => hquit (.inr (.inl h))
  have q3 : ¬ (n : Int) < id := fun h => hquit (.inr (.inr h))
  obtain ⟨i, rfl⟩ : ∃ i : Nat, id = (i : Int) + 1 := ⟨(id - 1).toNat, by omega⟩
  have hin : i < n := by omega
  have HI := Lib.hid hits
  have hr0 := Lib.hid (Ran.new hn1 hn16)
  clear hits hmany hquit
  go_enter Tryz.func8, Tryz.ntmps8
  go_wp2_with (first
    | (go_at_call 10; refine (groupAwake_any _).mono ?_; rintro e w1 ⟨rfl, hb1⟩)
    | (go_at_call 11; refine (HN.out _).mono ?_; rintro e w2 ⟨G, L, rfl, h2, hf2, hb2⟩; have hw2 := hb1.trans (hb2.mono hb1.size); have hfw : ∀ x ∈ gall G L, w.heap.size ≤ x := (fun x hx => Nat.le_trans hb1.size (hf2 x hx))))
  go_loopw [12] (fun j wr => ∃ (k : Nat) (L' : GL) (g : Gr), k ≤ its.length ∧ j = .int .i64 (k : Int) ∧ Hid (Ran n k g) ∧ GAt wr G L' g ∧ (∀ x ∈ gall G L', w.heap.size ≤ x) ∧ Below w.heap.size w wr) (fun j _ => its.length - (intOf j).toNat)
  case atStart => exact ⟨0, L, newGr n, by omega, rfl, hr0, h2, hfw, hw2⟩
  case round =>
    clear h2 hf2 hw2 hfw hb1 hb2 hr0
    obtain ⟨k, L4, g, hk, rfl, HR, h4, hf4, hw4⟩ := hrel
    have hk0 : (0 : Int) ≤ (k : Int) := by omega
    by_cases hlt : k < its.length
    · have hk1 : (k : Int) < (its.length : Int) := by omega
      obtain ⟨nb, noff, rfl, nlt, n0, n1, n2, n3⟩ := item_cells (HI.out.below hw4) hlt
      have HN5 := Lib.hid (HR.out.next (its[k]'hlt))
      have HDO : Hid (Calls Tryz.prog 12 #[.pointer (some ⟨G, 0, none⟩), itV (its[k]'hlt).1 (its[k]'hlt).2.1 (its[k]'hlt).2.2.1 (its[k]'hlt).2.2.2] wr (RetE (g.does (its[k]'hlt).1 (its[k]'hlt).2.1 (its[k]'hlt).2.2.1 (its[k]'hlt).2.2.2) G L4 wr)) := do_any HR.out.ok h4 _ _ _ _ (by have := HR.out.net; omega)
      generalize (its[k]'hlt) = it at *
      obtain ⟨t0, t1, t2, t3⟩ := it
      simp only at n0 n1 n2 n3 HDO
      have hg5 : g.item (t0, t1, t2, t3) = (g.does t0 t1 t2 t3).1 := rfl
      rw [hg5] at HN5
      generalize g.does t0 t1 t2 t3 = r5 at *
      obtain ⟨g5, e5⟩ := r5
      clear hg5
      go_wp2_with (go_at_call 12; refine HDO.out.mono ?_; rintro e w5 ⟨rfl, L5, h5, S5⟩; have hw5 : Below w.heap.size w w5 := hw4.trans (S5.chg.to_below hf4 hw4.size); have hf5 : ∀ x ∈ gall G L5, w.heap.size ≤ x := (fun x hx => (S5.sub x hx).elim (hf4 x) (fun q => Nat.le_trans hw4.size q)))
      go_roundw
      case rel => exact ⟨k + 1, L5, g5, by omega, by go_num, HN5, h5, hf5, hw5⟩
      case measure => simp [intOf]; omega
    · have hk1 : ¬ (k : Int) < (its.length : Int) := by omega
      obtain ⟨p, hp⟩ : ∃ p, g.ms[i]? = some p := ⟨_, List.getElem?_eq_getElem (by rw [HR.out.many]; exact hin)⟩
      have hgok := HR.out.ok
      have hpo := hgok.pair i p hp
      have hgn : g.ms.length ≤ 16 := hgok.n16
      have hnet := HR.out.net
      obtain ⟨k1, k2, k3⟩ := crash_at hgok hp keep
      have hcok := hgok.does 6 ((i : Int) + 1) keep 0
      have ht6 : g.there 6 ((i : Int) + 1) = 0 := by rw [there_m (by decide), if_neg (by have := HR.out.many; omega)]
      have hd6 : g.does 6 ((i : Int) + 1) keep 0 = (g.crash ((i : Int) + 1) keep, 0) := by
        unfold Gr.does
        rw [if_neg (by simp [ht6])]
        simp
      have HDO : Hid (∀ W L, GAt W G L g → Calls Tryz.prog 12 #[.pointer (some ⟨G, 0, none⟩), itV 6 ((i : Int) + 1) keep 0] W (RetE (g.crash ((i : Int) + 1) keep, 0) G L W)) := fun W L h => by
        have := do_any hgok h 6 ((i : Int) + 1) keep 0 (by omega)
        rwa [hd6] at this
      have HBA : Hid (Calls Tryz.prog 14 #[.pointer (some ⟨G, 0, none⟩), .int .i64 ((i : Int) + 1)] wr fun e w' => e = .returned (ballotV p.1.term p.1.vote) ∧ Below wr.heap.size wr w') := gballot_any h4 hgn hp
      have HLO : Hid (∀ W, GAt W G L4 g → Calls Tryz.prog 15 #[.pointer (some ⟨G, 0, none⟩), .int .i64 ((i : Int) + 1)] W (RetRow 42 7 p.1.log.length (ensV p.1.log) W)) := fun W h => glog_any h hgn hp hpo.mb.len64
      have hl64 := hpo.mb.len64
      rw [hd6] at hcok
      simp only at hcok
      have HWA : Hid (∀ W, GAt W G L4 g → Calls Tryz.prog 21 #[.pointer (some ⟨G, 0, none⟩)] W fun e w' => e = .returned (.int .i64 (g.net.length : Nat)) ∧ w' = W) := fun W h => waiting_any h
      generalize g.crash ((i : Int) + 1) keep = g2 at *
      have hg2n : g2.ms.length ≤ 16 := hcok.n16
      have HLO2 : Hid (∀ W L, GAt W G L g2 → Calls Tryz.prog 15 #[.pointer (some ⟨G, 0, none⟩), .int .i64 ((i : Int) + 1)] W (RetRow 42 7 p.1.log.length (ensV p.1.log) W)) := fun W L h => by
        have := glog_any h hg2n (p := (newMb ((i : Int) + 1) g.ms.length p.1.term p.1.vote p.1.log, p.2)) k1 hl64
        exact this
      have HBA2 : Hid (∀ W L, GAt W G L g2 → Calls Tryz.prog 14 #[.pointer (some ⟨G, 0, none⟩), .int .i64 ((i : Int) + 1)] W fun e w' => e = .returned (ballotV p.1.term p.1.vote) ∧ Below W.heap.size W w') := fun W L h => by
        have := gballot_any h hg2n (p := (newMb ((i : Int) + 1) g.ms.length p.1.term p.1.vote p.1.log, p.2)) k1
        exact this
      have HRO2 : Hid (∀ W L, GAt W G L g2 → Calls Tryz.prog 13 #[.pointer (some ⟨G, 0, none⟩), .int .i64 ((i : Int) + 1)] W fun e w' => e = .returned (.int .i64 0) ∧ Below W.heap.size W w') := fun W L h => grole_any h hg2n k1
      have HSE2 : Hid (∀ W L, GAt W G L g2 → Calls Tryz.prog 17 #[.pointer (some ⟨G, 0, none⟩), .int .i64 ((i : Int) + 1)] W (RetRow 42 7 0 (ensV []) W)) := fun W L h => by
        have := gsettled_any h hg2n k1 hl64 (Int.le_refl _) (by decide : (0 : Int) ≤ 64)
        exact this
      have HWA2 : Hid (∀ W L, GAt W G L g2 → Calls Tryz.prog 21 #[.pointer (some ⟨G, 0, none⟩)] W fun e w' => e = .returned (.int .i64 (g.net.length : Nat)) ∧ w' = W) := fun W L h => by
        have := waiting_any h
        rwa [k2] at this
      have HSA : Hid (∀ W A c A' c', RowAt W A (ensV p.1.log) → RowAt W A' (ensV p.1.log) → Calls Tryz.prog 16 #[.slice A p.1.log.length c, .slice A' p.1.log.length c'] W fun e w' => e = .returned (.bool true) ∧ Below W.heap.size W w') := fun W A c A' c' r1 r2 => by
        have := same_any A c p.1.log A' c' p.1.log W r1 r2 (by unfold maxLen; omega)
        rwa [show decide (p.1.log = p.1.log) = true from decide_eq_true rfl] at this
      clear hgok hpo hcok k1 k2 k3 hd6 ht6 HR HI hnet
      go_upto_region 14 with (first
        | (go_at_call 12; refine HD7.out.mono ?_; rintro e w8 ⟨rfl, L8, h8, S8⟩; have hw8 : Below w.heap.size w w8 := hw7.trans (S8.chg.to_below hf4 hw7.size); have own8 := own_chg own7 S8.chg (fun y hy hc => (by have := (own_blk own7 y hy).1; have := h6.gltAll y hc; omega)); have g8 := S8.chg.keep g7 (fun hc => (by have := h5.gltAll _ hc; omega)); have HL8 := Lib.hid (HLO2.out _ _ h8))
        | (go_at_call 14; refine HBA.out.mono ?_; rintro e w5 ⟨rfl, hb5⟩; have h5 := h4.below hb5; have hal := below1 w5 (.cells #[.int .i64 p.1.term, .int .i64 p.1.vote] 34); have h6 := h5.below hal; have hw6 := (hw4.trans (hb5.mono hw4.size)).trans (hal.mono (hw4.trans (hb5.mono hw4.size)).size); have g6 := blk_new w5 (.cells #[.int .i64 p.1.term, .int .i64 p.1.vote] 34); have HL6 := Lib.hid (HLO.out _ h6))
        | (go_at_call 15; refine HL6.out.mono ?_; rintro e w7 ⟨A7, c7, rfl, own7, hb7⟩; have h7 := h6.below hb7; have hw7 := hw6.trans (hb7.mono hw6.size); have g7 := blk_keep hb7 g6; have HW7 := Lib.hid (HWA.out _ h7); have HD7 := Lib.hid (HDO.out _ _ h7))
        | (go_at_call 21; refine HW7.out.mono ?_; rintro e wx ⟨rfl, hwx⟩; subst hwx)
        | (go_at_call 15; refine HL8.out.mono ?_; rintro e w9 ⟨A9, c9, rfl, own9, hb9⟩; have h9 := h8.below hb9; have hw9 := hw8.trans (hb9.mono hw8.size); have g9 := blk_keep hb9 g8; have HS9 := Lib.hid (HSA.out _ A9 c9 A7 c7 (RowAt.of_own own9) (RowAt.of_own (own_below own8 hb9))))
        | (go_at_call 16; refine HS9.out.mono ?_; rintro e w10 ⟨rfl, hb10⟩; have h10 := h9.below hb10; have hw10 := hw9.trans (hb10.mono hw9.size); have g10 := blk_keep hb10 g9))
      generalize w5.heap.size = F at *
      obtain ⟨b0, b1, bf0, bf1, blt⟩ := box2 g10
      have HB10 := Lib.hid (HBA2.out _ _ h10.drew)
      go_region_held3 (fun W => W.cell? ⟨F, 0, none⟩ = some (.int .i64 p.1.term) ∧ W.cell? ⟨F, 1, none⟩ = some (.int .i64 p.1.vote)) (first | with_reducible exact ⟨b0, b1⟩ | with_reducible exact ⟨k0, k1⟩ | with_reducible exact ⟨j0, j1⟩ | with_reducible exact ⟨i0, i1⟩ | go_keep) (first
        | (go_at_call 14; refine HB10.out.mono ?_; rintro e w11 ⟨rfl, hb11⟩; have h11 := h10.drew.below hb11; have hw11 := hw10.drew.trans (hb11.mono hw10.size); have g11 := blk_keep hb11 (blk_drawn g10); obtain ⟨k0, k1, kf0, kf1, klt⟩ := box2 g11; have HR11 := Lib.hid (HRO2.out _ _ h11))
        | (go_at_call 13; refine HR11.out.mono ?_; rintro e w12 ⟨rfl, hb12⟩; have h12 := h11.below hb12; have hw12 := hw11.trans (hb12.mono hw11.size); have g12 := blk_keep hb12 g11; obtain ⟨j0, j1, jf0, jf1, jlt⟩ := box2 g12; have HS12 := Lib.hid (HSE2.out _ _ h12))
        | (go_at_call 17; refine HS12.out.mono ?_; rintro e w13 ⟨A13, c13, rfl, own13, hb13⟩; have h13 := h12.below hb13; have hw13 := hw12.trans (hb13.mono hw12.size); have g13 := blk_keep hb13 g12; obtain ⟨i0, i1, if0, if1, ilt⟩ := box2 g13; have HW13 := Lib.hid (HWA2.out _ _ h13))
        | (go_at_call 21; refine HW13.out.mono ?_; rintro e wx ⟨rfl, hwx⟩; subst hwx))
      all_goals go_wp2
      all_goals go_ret
      all_goals exact ⟨rfl, hw13⟩
end Go.Proofs.YtnljdkglncmfaaaGreat
