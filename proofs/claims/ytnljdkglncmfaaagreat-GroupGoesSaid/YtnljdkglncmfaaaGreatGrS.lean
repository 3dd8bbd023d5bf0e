/-
  The law of items that are refused.
-/
import Derived.Test.YtnljdkglncmfaaaGreatGrR
namespace Go.Proofs.YtnljdkglncmfaaaGreat
open Go.RowKit
set_option linter.unusedVariables false
theorem does_err {g : Gr} {k a b c : Int} (h : (g.does k a b c).2 ≠ 0) : (g.does k a b c).1 = g := by
  unfold Gr.does at h ⊢
  split
  · rfl
  rename_i ht
  rw [if_neg ht] at h
  split
  · rename_i e; rw [if_pos e] at h; exact (h rfl).elim
  rename_i e0
  rw [if_neg e0] at h
  split
  · rename_i e; rw [if_pos e] at h; exact (h rfl).elim
  rename_i e1
  rw [if_neg e1] at h
  split
  · rename_i e
    rw [if_pos e] at h
    unfold Gr.propose at h ⊢
    split
    · rfl
    · rename_i q
      rw [if_neg q] at h
      split
      · rename_i q2; rw [if_pos q2] at h; exact (h rfl).elim
      · rfl
  rename_i e2
  rw [if_neg e2] at h
  split
  · rename_i e; rw [if_pos e] at h; exact (h rfl).elim
  rename_i e3
  rw [if_neg e3] at h
  split
  · rename_i e; rw [if_pos e] at h; exact (h rfl).elim
  rename_i e4
  rw [if_neg e4] at h
  split
  · rename_i e; rw [if_pos e] at h; exact (h rfl).elim
  rename_i e5
  rw [if_neg e5] at h
  split
  · rename_i e; rw [if_pos e] at h; exact (h rfl).elim
  rename_i e6
  rw [if_neg e6] at h
  exact (h rfl).elim
/-- Two groups that lie apart. -/
structure Two (B : Nat) (w : World) (G : Nat) (L : GL) (H : Nat) (M : GL) (g : Gr) (h : Gr) : Prop where
  a : GAt w G L g
  b : GAt w H M h
  apart : ∀ x ∈ gall G L, x ∉ gall H M
  ga : ∀ x ∈ gall G L, B ≤ x
  gb : ∀ x ∈ gall H M, B ≤ x
theorem Two.below {B : Nat} {w w' : World} {G H : Nat} {L M : GL} {g h : Gr} (t : Two B w G L H M g h) (hb : Below w.heap.size w w') : Two B w' G L H M g h := ⟨t.a.below hb, t.b.below hb, t.apart, t.ga, t.gb⟩
theorem Two.swap {B : Nat} {w : World} {G H : Nat} {L M : GL} {g h : Gr} (t : Two B w G L H M g h) : Two B w H M G L h g := ⟨t.b, t.a, fun x hx hc => t.apart x hc hx, t.gb, t.ga⟩
theorem Two.step {B : Nat} {w w' : World} {G H : Nat} {L L' M : GL} {g g' h : Gr} (t : Two B w G L H M g h) (hB : B ≤ w.heap.size) (hg : GAt w' G L' g') (hs : GStep w G L w' L') : Two B w' G L' H M g' h :=
  ⟨hg, t.b.chgOut hs.chg fun x hx hc => t.apart x hc hx, fun x hx hc => by
    rcases hs.sub x hx with h1 | h1
    · exact t.apart x h1 hc
    · have := t.b.gltAll x hc; omega, fun x hx => by
    rcases hs.sub x hx with h1 | h1
    · exact t.ga x h1
    · omega, t.gb⟩
set_option maxRecDepth 100000 in
set_option maxHeartbeats 6400000 in
theorem groupRefuses_walk (many : Int) (ia : Option Addr) (ic : Nat) (its : List It) (tk ta tb tc : Int) (w : World) (hits : ItemsIn w ia ic its) :
    Calls Tryz.prog 9 #[.int .i64 many, .slice ia its.length ic, itV tk ta tb tc] w fun e w' => e = .returned (.bool true) ∧ Below w.heap.size w w' := by
  have hw0 := below1 w (.cells #[.int .i64 tk, .int .i64 ta, .int .i64 tb, .int .i64 tc] 31)
  have g0 := blk_new w (.cells #[.int .i64 tk, .int .i64 ta, .int .i64 tb, .int .i64 tc] 31)
  by_cases hmany : many < 1 ∨ 16 < many
  · have HN : Hid (∀ W, Calls Tryz.prog 11 #[.int .i64 many] W fun e w' => e = .returned (.tuple #[.pointer none, .int .i64 1]) ∧ w' = W) := fun W => gnew_no many W hmany
    clear hits hmany
    by_cases q120 : 120 < (its.length : Int)
    all_goals (
      go_enter Tryz.func9, Tryz.ntmps9
      go_wp2_with (first
        | (go_at_call 10; refine (groupAwake_any _).mono ?_; rintro e w1 ⟨rfl, hb1⟩; have hw1 := hw0.trans (hb1.mono hw0.size))
        | (go_at_call 11; refine (HN.out _).mono ?_; rintro e wx ⟨rfl, hwx⟩; subst hwx))
      go_ret
      exact ⟨rfl, hw1⟩)
  obtain ⟨n, rfl⟩ : ∃ n : Nat, many = (n : Int) := ⟨many.toNat, by omega⟩
  have hn1 : 1 ≤ n := by omega
  have hn16 : n ≤ 16 := by omega
  have HN : Hid (∀ W, Calls Tryz.prog 11 #[.int .i64 (n : Int)] W (RetGr n W)) := fun W => gnew_any n W hn1 hn16
  by_cases q1 : 120 < (its.length : Int)
  · clear hits hmany
    go_enter Tryz.func9, Tryz.ntmps9
    go_wp2_with (first
      | (go_at_call 10; refine (groupAwake_any _).mono ?_; rintro e w1 ⟨rfl, hb1⟩; have hw1 := hw0.trans (hb1.mono hw0.size); have HN1 := Lib.hid (HN.out w1))
      | (go_at_call 11; refine HN2.out.mono ?_; rintro e w3 ⟨G3, L3, rfl, h3, hf3, hb3⟩; have hw3 := hw2.trans (hb3.mono hw2.size))
      | (go_at_call 11; refine HN1.out.mono ?_; rintro e w2 ⟨G, L, rfl, h2, hf2, hb2⟩; have hw2 := hw1.trans (hb2.mono hw1.size); have HN2 := Lib.hid (HN.out w2)))
    go_ret
    exact ⟨rfl, hw3⟩
  have HI := Lib.hid hits
  have hr0 := Lib.hid (Ran.new hn1 hn16)
  clear hits hmany
  go_enter Tryz.func9, Tryz.ntmps9
  go_wp2_with (first
    | (go_at_call 10; refine (groupAwake_any _).mono ?_; rintro e w1 ⟨rfl, hb1⟩; have hw1 := hw0.trans (hb1.mono hw0.size); have g1 := blk_keep hb1 g0; have HN1 := Lib.hid (HN.out w1))
    | (go_at_call 11; refine HN2.out.mono ?_; rintro e w3 ⟨H, M, rfl, h3, hf3, hb3⟩; have hw3 := hw2.trans (hb3.mono hw2.size); have g3 := blk_keep hb3 g2; have ht3 : Two (w.heap.size + 1) w3 G L H M (newGr n) (newGr n) := ⟨h2.below hb3, h3, fun x hx hc => (by have := h2.gltAll x hx; have := hf3 x hc; omega), fun x hx => (by have := hf2 x hx; have := blk_lt g1; omega), fun x hx => (by have := hf3 x hx; have := blk_lt g2; omega)⟩)
    | (go_at_call 11; refine HN1.out.mono ?_; rintro e w2 ⟨G, L, rfl, h2, hf2, hb2⟩; have hw2 := hw1.trans (hb2.mono hw1.size); have g2 := blk_keep hb2 g1; have HN2 := Lib.hid (HN.out w2)))
  go_loopw [12] (fun j wr => ∃ (k : Nat) (L' M' : GL) (g : Gr), k ≤ its.length ∧ j = .int .i64 (k : Int) ∧ Hid (Ran n k g) ∧ Two (w.heap.size + 1) wr G L' H M' g g ∧ Below w.heap.size w wr ∧ wr.heap[w.heap.size]? = some (.cells #[.int .i64 tk, .int .i64 ta, .int .i64 tb, .int .i64 tc] 31)) (fun j _ => its.length - (intOf j).toNat)
  case atStart => exact ⟨0, L, M, newGr n, by omega, rfl, hr0, ht3, hw3, g3⟩
  case round =>
    clear ht3 h2 h3 hf2 hf3 hw3 hw2 hw1 hb1 hb2 hb3 hr0 g1 g2 g3 g0 hw0
    obtain ⟨k, L4, M4, g, hk, rfl, HR, t4, hw4, i4⟩ := hrel
    have hk0 : (0 : Int) ≤ (k : Int) := by omega
    have hz4 := blk_lt i4
    by_cases hlt : k < its.length
    · have hk1 : (k : Int) < (its.length : Int) := by omega
      obtain ⟨nb, noff, rfl, nlt, n0, n1, n2, n3⟩ := item_cells (HI.out.below hw4) hlt
      have HN5 := Lib.hid (HR.out.next (its[k]'hlt))
      have HDO : Hid (∀ W G L, GAt W G L g → Calls Tryz.prog 12 #[.pointer (some ⟨G, 0, none⟩), itV (its[k]'hlt).1 (its[k]'hlt).2.1 (its[k]'hlt).2.2.1 (its[k]'hlt).2.2.2] W (RetE (g.does (its[k]'hlt).1 (its[k]'hlt).2.1 (its[k]'hlt).2.2.1 (its[k]'hlt).2.2.2) G L W)) := fun W G L h => do_any HR.out.ok h _ _ _ _ (by have := HR.out.net; omega)
      have hnw : nb < wr.heap.size := nlt
      have HIT := Lib.hid (fun (W : World) (hb : Below w.heap.size w W) => item_cells (HI.out.below hb) hlt)
      generalize (its[k]'hlt) = it at *
      obtain ⟨t0, t1, t2, t3⟩ := it
      simp only at n0 n1 n2 n3 HDO HIT
      have hg5 : g.item (t0, t1, t2, t3) = (g.does t0 t1 t2 t3).1 := rfl
      rw [hg5] at HN5
      generalize g.does t0 t1 t2 t3 = r5 at *
      obtain ⟨g5, e5⟩ := r5
      clear hg5
      have HD4 := Lib.hid (HDO.out _ _ _ t4.a)
      go_wp2_with (first
        | (go_at_call 12; refine HD5.out.mono ?_; rintro e w6 ⟨rfl, M6, h6, S6⟩; have t6 := (t5.swap.step (by have := hw5.size; have := S5.chg.size; omega) h6 S6).swap; have hw6 : Below w.heap.size w w6 := hw5.trans (S6.chg.to_below (fun x hx => (by have := t5.gb x hx; omega)) hw5.size); have i6 := S6.chg.keep i5 (fun hc => (by have := t5.gb _ hc; omega)))
        | (go_at_call 12; refine HD4.out.mono ?_; rintro e w5 ⟨rfl, L5, h5, S5⟩; have t5 := t4.step (by omega) h5 S5; have hw5 : Below w.heap.size w w5 := hw4.trans (S5.chg.to_below (fun x hx => (by have := t4.ga x hx; omega)) hw4.size); have i5 := S5.chg.keep i4 (fun hc => (by have := t4.ga _ hc; omega)); clear n0 n1 n2 n3; obtain ⟨nb2, noff2, ne, nlt2, n0, n1, n2, n3⟩ := HIT.out w5 hw5; cases ne; have HD5 := Lib.hid (HDO.out _ _ _ t5.b)))
      go_roundw
      case rel => exact ⟨k + 1, L5, M6, g5, by omega, by go_num, HN5, t6, hw6, i6⟩
      case measure => simp [intOf]; omega
    · have hk1 : ¬ (k : Int) < (its.length : Int) := by omega
      obtain ⟨i0, i1, i2, i3, if1, ilt⟩ := box4 i4
      have HDO : Hid (Calls Tryz.prog 12 #[.pointer (some ⟨G, 0, none⟩), itV tk ta tb tc] wr (RetE (g.does tk ta tb tc) G L4 wr)) := do_any HR.out.ok t4.a _ _ _ _ (by have := HR.out.net; omega)
      by_cases her : (g.does tk ta tb tc).2 = 0
      · generalize g.does tk ta tb tc = r at *
        obtain ⟨g5, e5⟩ := r
        simp only at her
        subst her
        go_wp2_with (go_at_call 12; refine HDO.out.mono ?_; rintro e w5 ⟨rfl, L5, h5, S5⟩; have hw5 : Below w.heap.size w w5 := hw4.trans (S5.chg.to_below (fun x hx => (by have := t4.ga x hx; omega)) hw4.size))
        go_ret
        exact ⟨rfl, hw5⟩
      · have hsame := does_err her
        have her1 : ((g.does tk ta tb tc).2 == 0) = false := by simpa using her
        generalize g.does tk ta tb tc = r at *
        obtain ⟨g5, e5⟩ := r
        simp only at hsame her1
        subst hsame
        clear her
        go_wp2_with (go_at_call 12; refine HDO.out.mono ?_; rintro e w5 ⟨rfl, L5, h5, S5⟩; have t5 := t4.step (by omega) h5 S5; have hw5 : Below w.heap.size w w5 := hw4.trans (S5.chg.to_below (fun x hx => (by have := t4.ga x hx; omega)) hw4.size))
        clear i0 i1 i2 i3 if1 ilt t4 hw4 HDO S5 h5
        go_loopw [13] (fun j wr => ∃ (k : Nat), k ≤ n ∧ j = .int .i64 ((k : Int) + 1) ∧ Two (w.heap.size + 1) wr G L5 H M4 g5 g5 ∧ Below w.heap.size w wr) (fun j _ => (n + 1 : Nat) - (intOf j).toNat)
        case atStart => exact ⟨0, by omega, rfl, t5, hw5⟩
        case round =>
          clear t5 hw5
          obtain ⟨m, hm, rfl, t6, hw6⟩ := hrel
          have hgn : g5.ms.length ≤ 16 := HR.out.ok.n16
          by_cases hmn : m < n
          · have hm1 : (m : Int) + 1 ≤ (n : Int) := by omega
            obtain ⟨p, hp⟩ : ∃ p, g5.ms[m]? = some p := ⟨_, List.getElem?_eq_getElem (by rw [HR.out.many]; exact hmn)⟩
            have hl64 := (HR.out.ok.pair m p hp).mb.len64
            have HLA := Lib.hid (glog_any t6.a hgn hp hl64)
            have HLB : Hid (∀ W, GAt W H M4 g5 → Calls Tryz.prog 15 #[.pointer (some ⟨H, 0, none⟩), .int .i64 ((m : Int) + 1)] W (RetRow 42 7 p.1.log.length (ensV p.1.log) W)) := fun W h => glog_any h hgn hp hl64
            have HBX : Hid (∀ W G L, GAt W G L g5 → Calls Tryz.prog 14 #[.pointer (some ⟨G, 0, none⟩), .int .i64 ((m : Int) + 1)] W fun e w' => e = .returned (ballotV p.1.term p.1.vote) ∧ Below W.heap.size W w') := fun W G L h => gballot_any h hgn hp
            have HRX : Hid (∀ W G L, GAt W G L g5 → Calls Tryz.prog 13 #[.pointer (some ⟨G, 0, none⟩), .int .i64 ((m : Int) + 1)] W fun e w' => e = .returned (.int .i64 p.1.role) ∧ Below W.heap.size W w') := fun W G L h => grole_any h hgn hp
            have HSA : Hid (∀ W A c A' c', RowAt W A (ensV p.1.log) → RowAt W A' (ensV p.1.log) → Calls Tryz.prog 16 #[.slice A p.1.log.length c, .slice A' p.1.log.length c'] W fun e w' => e = .returned (.bool true) ∧ Below W.heap.size W w') := fun W A c A' c' r1 r2 => by
              have := same_any A c p.1.log A' c' p.1.log W r1 r2 (by unfold maxLen; omega)
              rwa [show decide (p.1.log = p.1.log) = true from decide_eq_true rfl] at this
            go_wp2_with (first
              | (go_at_call 15; refine HLB7.out.mono ?_; rintro e w8 ⟨A8, c8, rfl, own8, hb8⟩; have t8 := t7.below hb8; have hw8 := hw7.trans (hb8.mono hw7.size); have HS8 := Lib.hid (HSA.out _ A7 c7 A8 c8 (RowAt.of_own (own_below own7 hb8)) (RowAt.of_own own8)))
              | (go_at_call 15; refine HLA.out.mono ?_; rintro e w7 ⟨A7, c7, rfl, own7, hb7⟩; have t7 := t6.below hb7; have hw7 := hw6.trans (hb7.mono hw6.size); have HLB7 := Lib.hid (HLB.out _ t7.b))
              | (go_at_call 16; refine HS8.out.mono ?_; rintro e w9 ⟨rfl, hb9⟩; have t9 := t8.below hb9; have hw9 := hw8.trans (hb9.mono hw8.size); have HB9 := Lib.hid (HBX.out _ _ _ t9.a))
              | (go_at_call 14; refine HB10.out.mono ?_; rintro e w11 ⟨rfl, hb11⟩; have t11 := t10.below hb11; have hw11 := hw10.trans (hb11.mono hw10.size); have HR11 := Lib.hid (HRX.out _ _ _ t11.a))
              | (go_at_call 14; refine HB9.out.mono ?_; rintro e w10 ⟨rfl, hb10⟩; have t10 := t9.below hb10; have hw10 := hw9.trans (hb10.mono hw9.size); have HB10 := Lib.hid (HBX.out _ _ _ t10.b))
              | (go_at_call 13; refine HR12.out.mono ?_; rintro e w13 ⟨rfl, hb13⟩; have t13 := t12.below hb13; have hw13 := hw12.trans (hb13.mono hw12.size))
              | (go_at_call 13; refine HR11.out.mono ?_; rintro e w12 ⟨rfl, hb12⟩; have t12 := t11.below hb12; have hw12 := hw11.trans (hb12.mono hw11.size); have HR12 := Lib.hid (HRX.out _ _ _ t12.b)))
            go_roundw
            case rel => exact ⟨m + 1, by omega, by go_num, t13, hw13⟩
            case measure => simp [intOf]; omega
          · have hm1 : ¬ (m : Int) + 1 ≤ (n : Int) := by omega
            have HWA := Lib.hid (waiting_any t6.a)
            have HWB := Lib.hid (waiting_any t6.b)
            go_wp2_with (first
              | (go_at_call 21; refine HWA.out.mono ?_; rintro e wx ⟨rfl, hwx⟩; subst hwx)
              | (go_at_call 21; refine HWB.out.mono ?_; rintro e wx ⟨rfl, hwx⟩; subst hwx))
            go_ret
            exact ⟨rfl, hw6⟩
end Go.Proofs.YtnljdkglncmfaaaGreat
