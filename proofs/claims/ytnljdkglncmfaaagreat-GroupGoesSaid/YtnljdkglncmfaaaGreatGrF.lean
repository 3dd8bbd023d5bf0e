/-
  Items, one by one.
-/
import Derived.Test.YtnljdkglncmfaaaGreatGrE
import Derived.Test.YtnljdkglncmfaaaGreatBh
import Derived.Test.YtnljdkglncmfaaaGreatRaftR
namespace Go.Proofs.YtnljdkglncmfaaaGreat
open Go.RowKit
set_option linter.unusedVariables false
theorem there_in {g : Gr} {k a : Int} (h : g.there k a = 0) (hk : k = 0 ∨ k = 1 ∨ k = 2 ∨ k = 6) : ∃ i : Nat, a = (i : Int) + 1 ∧ i < g.ms.length := by
  obtain ⟨h1, h2⟩ := GrOk.there_member h hk
  exact ⟨(a - 1).toNat, by omega, by omega⟩
set_option maxRecDepth 100000 in
set_option maxHeartbeats 6400000 in
theorem do_timeout {w : World} {G : Nat} {L : GL} {g : Gr} (hgo : GrOk g) (h : GAt w G L g) (i : Nat) {q : ML} {p : Mb × Vt} (hq : L.mem[i]? = some q) (hp : g.ms[i]? = some p) (b c : Int) (hnet : g.net.length ≤ 1000000) (ht : g.there 0 ((i : Int) + 1) = 0) :
    Calls Tryz.prog 12 #[.pointer (some ⟨G, 0, none⟩), itV 0 ((i : Int) + 1) b c] w (RetE (g.acts ((i : Int) + 1) p.1.timeout.1 p.1.timeout.2, 0) G L w) := by
  have hi : i < g.ms.length := (List.getElem?_eq_some_iff.1 hp).1
  have hpo := hgo.pair i p hp
  have hal := below1 w (.cells #[.int .i64 0, .int .i64 ((i : Int) + 1), .int .i64 b, .int .i64 c] 31)
  have gF := blk_new w (.cells #[.int .i64 0, .int .i64 ((i : Int) + 1), .int .i64 b, .int .i64 c] 31)
  have h0 := h.below hal
  have HTH := Lib.hid (there_any h0 0 ((i : Int) + 1) b c)
  rw [ht] at HTH
  have HOF : Hid (∀ W, Below w.heap.size w W → Calls Tryz.prog 29 #[.pointer (some ⟨G, 0, none⟩), .int .i64 ((i : Int) + 1)] W fun e w' => e = .returned (.pointer (some ⟨L.ma, i * 2, none⟩)) ∧ w' = W) := fun W hb => of_any (h.below hb) i hi hgo.n16
  have HPT : Hid (∀ W, Below w.heap.size w W → W.cell? ⟨L.ma, i * 2, none⟩ = some (.pointer (some ⟨q.b, 0, none⟩)) ∧ L.ma < W.heap.size) := fun W hb => ⟨((h.below hb).ptrs hq).1, ((h.below hb).ptrs hq).2.2.2.2⟩
  have HMA : Hid (∀ W, Below w.heap.size w W → MAt W q.b q.a p.1) := fun W hb => ((h.below hb).mem i q p hq hp).1
  have hFn : w.heap.size ∉ foot q.b q.a := fun hc => by have := (h.mem i q p hq hp).1.lt _ hc; omega
  have HTO : Hid (∀ W, MAt W q.b q.a p.1 → Calls Tryz.prog 30 #[.pointer (some ⟨q.b, 0, none⟩)] W (RetR p.1.timeout.1 p.1.timeout.2 q.b q.a W)) := fun W hW => timeout_any hW hpo.mb
  have HACT : Hid (∀ W0, Below w.heap.size w W0 → ∀ w' a' B A c sl, MAt w' q.b a' p.1.timeout.1 → Step W0 q.b q.a w' a' → W0.heap.size ≤ B → (∀ x ∈ foot q.b a', x < B) → MsAt w' B A c p.1.timeout.2 sl → Calls Tryz.prog 28 #[.pointer (some ⟨G, 0, none⟩), .int .i64 ((i : Int) + 1), .slice A p.1.timeout.2.length c] w' fun e w2 => e = .returned (.tuple #[]) ∧ ∃ L2, GAt w2 G L2 (g.acts ((i : Int) + 1) p.1.timeout.1 p.1.timeout.2) ∧ GStep W0 G L w2 L2) := fun W0 hb w' a' B A c sl k1 k2 k3 k4 k5 => acts_said hgo (h.below hb) hq hp hpo.inGr.timeout.1 k1 k2 k3 k4 k5 (timeout_le hpo.mb) hnet
  have HFG : Hid (∀ W0 w2 L2, Below w.heap.size w W0 → GStep W0 G L w2 L2 → W0.heap[w.heap.size]? = some (.cells #[.int .i64 0, .int .i64 ((i : Int) + 1), .int .i64 b, .int .i64 c] 31) → w2.heap[w.heap.size]? = some (.cells #[.int .i64 0, .int .i64 ((i : Int) + 1), .int .i64 b, .int .i64 c] 31)) := fun W0 w2 L2 hb hS hk => hS.chg.keep hk fun hc => by have := h.gltAll _ hc; omega
  obtain ⟨c0, c1, c2, c3, f1, hlt⟩ := box4 gF
  generalize p.1.timeout.1 = m' at *
  generalize p.1.timeout.2 = said at *
  clear h h0 hpo ht
  go_enter Tryz.func12, Tryz.ntmps12
  go_upto_region 13 with (go_at_call 27; refine HTH.out.mono ?_; rintro e w1 ⟨rfl, hb1⟩; have hw1 := hal.trans (hb1.mono hal.size); have g1 := blk_keep hb1 gF; clear c0 c1 c2 c3 f1 hlt; obtain ⟨c0, c1, c2, c3, f1, hlt⟩ := box4 g1)
  obtain ⟨p0, plt⟩ := HPT.out _ hw1
  have HO1 := Lib.hid (HOF.out _ hw1.drew)
  have HT1 := Lib.hid (HTO.out _ (HMA.out _ hw1.drew))
  go_region_law (first
    | (go_simp; go_at_call 29; refine HO1.out.mono ?_; rintro e wx ⟨rfl, hwx⟩; subst hwx; (try go_simp))
    | (go_simp; go_at_call 30; refine HT1.out.mono ?_; rintro e w2 ⟨a2, B2, A2, cc2, sl2, rfl, H2, S2, hB2, hF2, hms2⟩; have g2 := S2.keep (blk_drawn g1) hFn; obtain ⟨k0, k1, k2, k3, kf1, klt⟩ := box4 g2; have HA2 := Lib.hid (HACT.out _ hw1.drew _ _ _ _ _ _ H2 S2 hB2 hF2 hms2); (try go_simp))
    | (go_simp; go_at_call 28; refine HA2.out.mono ?_; rintro e w3 ⟨rfl, L3, h3, S3⟩; have g3 := HFG.out _ _ _ hw1.drew S3 (blk_drawn g1); obtain ⟨j0, j1, j2, j3, jf1, jlt⟩ := box4 g3; (try go_simp)))
  all_goals go_wp2
  all_goals go_ret
  all_goals exact ⟨rfl, L3, h3, (GStep.of_below hw1.drew).trans S3⟩
set_option maxRecDepth 100000 in
set_option maxHeartbeats 6400000 in
theorem do_beat {w : World} {G : Nat} {L : GL} {g : Gr} (hgo : GrOk g) (h : GAt w G L g) (i : Nat) {q : ML} {p : Mb × Vt} (hq : L.mem[i]? = some q) (hp : g.ms[i]? = some p) (b c : Int) (hnet : g.net.length ≤ 1000000) (ht : g.there 1 ((i : Int) + 1) = 0) :
    Calls Tryz.prog 12 #[.pointer (some ⟨G, 0, none⟩), itV 1 ((i : Int) + 1) b c] w (RetE (g.acts ((i : Int) + 1) p.1.beat.1 p.1.beat.2, 0) G L w) := by
  have hi : i < g.ms.length := (List.getElem?_eq_some_iff.1 hp).1
  have hpo := hgo.pair i p hp
  have hal := below1 w (.cells #[.int .i64 1, .int .i64 ((i : Int) + 1), .int .i64 b, .int .i64 c] 31)
  have gF := blk_new w (.cells #[.int .i64 1, .int .i64 ((i : Int) + 1), .int .i64 b, .int .i64 c] 31)
  have h0 := h.below hal
  have HTH := Lib.hid (there_any h0 1 ((i : Int) + 1) b c)
  rw [ht] at HTH
  have HOF : Hid (∀ W, Below w.heap.size w W → Calls Tryz.prog 29 #[.pointer (some ⟨G, 0, none⟩), .int .i64 ((i : Int) + 1)] W fun e w' => e = .returned (.pointer (some ⟨L.ma, i * 2, none⟩)) ∧ w' = W) := fun W hb => of_any (h.below hb) i hi hgo.n16
  have HPT : Hid (∀ W, Below w.heap.size w W → W.cell? ⟨L.ma, i * 2, none⟩ = some (.pointer (some ⟨q.b, 0, none⟩)) ∧ L.ma < W.heap.size) := fun W hb => ⟨((h.below hb).ptrs hq).1, ((h.below hb).ptrs hq).2.2.2.2⟩
  have HMA : Hid (∀ W, Below w.heap.size w W → MAt W q.b q.a p.1) := fun W hb => ((h.below hb).mem i q p hq hp).1
  have hFn : w.heap.size ∉ foot q.b q.a := fun hc => by have := (h.mem i q p hq hp).1.lt _ hc; omega
  have HTO : Hid (∀ W, MAt W q.b q.a p.1 → Calls Tryz.prog 31 #[.pointer (some ⟨q.b, 0, none⟩)] W (RetR p.1.beat.1 p.1.beat.2 q.b q.a W)) := fun W hW => beat_any hW hpo.mb
  have HACT : Hid (∀ W0, Below w.heap.size w W0 → ∀ w' a' B A c sl, MAt w' q.b a' p.1.beat.1 → Step W0 q.b q.a w' a' → W0.heap.size ≤ B → (∀ x ∈ foot q.b a', x < B) → MsAt w' B A c p.1.beat.2 sl → Calls Tryz.prog 28 #[.pointer (some ⟨G, 0, none⟩), .int .i64 ((i : Int) + 1), .slice A p.1.beat.2.length c] w' fun e w2 => e = .returned (.tuple #[]) ∧ ∃ L2, GAt w2 G L2 (g.acts ((i : Int) + 1) p.1.beat.1 p.1.beat.2) ∧ GStep W0 G L w2 L2) := fun W0 hb w' a' B A c sl k1 k2 k3 k4 k5 => acts_said hgo (h.below hb) hq hp hpo.inGr k1 k2 k3 k4 k5 (beat_le hpo.mb) hnet
  have HFG : Hid (∀ W0 w2 L2, Below w.heap.size w W0 → GStep W0 G L w2 L2 → W0.heap[w.heap.size]? = some (.cells #[.int .i64 1, .int .i64 ((i : Int) + 1), .int .i64 b, .int .i64 c] 31) → w2.heap[w.heap.size]? = some (.cells #[.int .i64 1, .int .i64 ((i : Int) + 1), .int .i64 b, .int .i64 c] 31)) := fun W0 w2 L2 hb hS hk => hS.chg.keep hk fun hc => by have := h.gltAll _ hc; omega
  obtain ⟨c0, c1, c2, c3, f1, hlt⟩ := box4 gF
  generalize p.1.beat.1 = m' at *
  generalize p.1.beat.2 = said at *
  clear h h0 hpo ht
  go_enter Tryz.func12, Tryz.ntmps12
  go_upto_region 14 with (go_at_call 27; refine HTH.out.mono ?_; rintro e w1 ⟨rfl, hb1⟩; have hw1 := hal.trans (hb1.mono hal.size); have g1 := blk_keep hb1 gF; clear c0 c1 c2 c3 f1 hlt; obtain ⟨c0, c1, c2, c3, f1, hlt⟩ := box4 g1)
  obtain ⟨p0, plt⟩ := HPT.out _ hw1
  have HO1 := Lib.hid (HOF.out _ hw1.drew)
  have HT1 := Lib.hid (HTO.out _ (HMA.out _ hw1.drew))
  go_region_law (first
    | (go_simp; go_at_call 29; refine HO1.out.mono ?_; rintro e wx ⟨rfl, hwx⟩; subst hwx; (try go_simp))
    | (go_simp; go_at_call 31; refine HT1.out.mono ?_; rintro e w2 ⟨a2, B2, A2, cc2, sl2, rfl, H2, S2, hB2, hF2, hms2⟩; have g2 := S2.keep (blk_drawn g1) hFn; obtain ⟨k0, k1, k2, k3, kf1, klt⟩ := box4 g2; have HA2 := Lib.hid (HACT.out _ hw1.drew _ _ _ _ _ _ H2 S2 hB2 hF2 hms2); (try go_simp))
    | (go_simp; go_at_call 28; refine HA2.out.mono ?_; rintro e w3 ⟨rfl, L3, h3, S3⟩; have g3 := HFG.out _ _ _ hw1.drew S3 (blk_drawn g1); obtain ⟨j0, j1, j2, j3, jf1, jlt⟩ := box4 g3; (try go_simp)))
  all_goals go_wp2
  all_goals go_ret
  all_goals exact ⟨rfl, L3, h3, (GStep.of_below hw1.drew).trans S3⟩
set_option maxRecDepth 100000 in
set_option maxHeartbeats 6400000 in
theorem do_not {w : World} {G : Nat} {L : GL} {g : Gr} (h : GAt w G L g) (k a b c : Int) (ht : g.there k a ≠ 0) :
    Calls Tryz.prog 12 #[.pointer (some ⟨G, 0, none⟩), itV k a b c] w (RetE (g, g.there k a) G L w) := by
  have HG := Lib.hid h
  have hal := below1 w (.cells #[.int .i64 k, .int .i64 a, .int .i64 b, .int .i64 c] 31)
  have gF := blk_new w (.cells #[.int .i64 k, .int .i64 a, .int .i64 b, .int .i64 c] 31)
  have HTH := Lib.hid (there_any (h.below hal) k a b c)
  obtain ⟨c0, c1, c2, c3, f1, hlt⟩ := box4 gF
  have hT : (g.there k a != 0) = true := by simpa using ht
  generalize g.there k a = T at *
  clear h ht
  go_enter Tryz.func12, Tryz.ntmps12
  go_wp2_with (go_at_call 27; refine HTH.out.mono ?_; rintro e w1 ⟨rfl, hb1⟩; have hw1 := hal.trans (hb1.mono hal.size))
  go_ret
  exact ⟨rfl, L, HG.out.below hw1, GStep.of_below hw1⟩
set_option maxRecDepth 100000 in
set_option maxHeartbeats 6400000 in
theorem do_propose {w : World} {G : Nat} {L : GL} {g : Gr} (hgo : GrOk g) (h : GAt w G L g) (i : Nat) {q : ML} {p : Mb × Vt} (hq : L.mem[i]? = some q) (hp : g.ms[i]? = some p) (b c : Int) (hnet : g.net.length ≤ 1000000) (ht : g.there 2 ((i : Int) + 1) = 0) :
    Calls Tryz.prog 12 #[.pointer (some ⟨G, 0, none⟩), itV 2 ((i : Int) + 1) b c] w (RetE (g.propose ((i : Int) + 1) b c) G L w) := by
  have hal := below1 w (.cells #[.int .i64 2, .int .i64 ((i : Int) + 1), .int .i64 b, .int .i64 c] 31)
  have gF := blk_new w (.cells #[.int .i64 2, .int .i64 ((i : Int) + 1), .int .i64 b, .int .i64 c] 31)
  have h0 := h.below hal
  have HTH := Lib.hid (there_any h0 2 ((i : Int) + 1) b c)
  rw [ht] at HTH
  obtain ⟨c0, c1, c2, c3, f1, hlt⟩ := box4 gF
  have HPR : Hid (∀ W, Below w.heap.size w W → Calls Tryz.prog 32 #[.pointer (some ⟨G, 0, none⟩), .int .i64 ((i : Int) + 1), .int .i64 b, .int .i64 c] W (RetE (g.propose ((i : Int) + 1) b c) G L W)) := fun W hb => gpropose_any hgo (h.below hb) i hq hp b c hnet
  generalize g.propose ((i : Int) + 1) b c = r at *
  clear h h0 ht
  go_enter Tryz.func12, Tryz.ntmps12
  go_wp2_with (first
    | (go_at_call 27; refine HTH.out.mono ?_; rintro e w1 ⟨rfl, hb1⟩; have hw1 := hal.trans (hb1.mono hal.size); have g1 := blk_keep hb1 gF; clear c0 c1 c2 c3 f1 hlt; obtain ⟨c0, c1, c2, c3, f1, hlt⟩ := box4 g1)
    | (go_at_call 32; refine (HPR.out _ hw1).mono ?_; rintro e w2 ⟨rfl, L2, h2, S2⟩))
  go_ret
  exact ⟨rfl, L2, h2, (GStep.of_below hw1).trans S2⟩
set_option maxRecDepth 100000 in
set_option maxHeartbeats 6400000 in
theorem do_crash {w : World} {G : Nat} {L : GL} {g : Gr} (hgo : GrOk g) (h : GAt w G L g) (i : Nat) {p : Mb × Vt} (hp : g.ms[i]? = some p) (b c : Int) (ht : g.there 6 ((i : Int) + 1) = 0) :
    Calls Tryz.prog 12 #[.pointer (some ⟨G, 0, none⟩), itV 6 ((i : Int) + 1) b c] w (RetE (g.crash ((i : Int) + 1) b, 0) G L w) := by
  have hi : i < g.ms.length := (List.getElem?_eq_some_iff.1 hp).1
  have hpo := hgo.pair i p hp
  have HR : Hid (g.crash ((i : Int) + 1) b = ⟨g.ms.set i (fresh ((i : Int) + 1) g.ms.length (crashV p.2 b), crashV p.2 b), g.net⟩) := by
    unfold Gr.crash Gr.anew Gr.set
    rw [Hid, at_idx hp, show ((i : Int) + 1 - 1).toNat = i by omega]
  have hal := below1 w (.cells #[.int .i64 6, .int .i64 ((i : Int) + 1), .int .i64 b, .int .i64 c] 31)
  have gF := blk_new w (.cells #[.int .i64 6, .int .i64 ((i : Int) + 1), .int .i64 b, .int .i64 c] 31)
  have h0 := h.below hal
  have HTH := Lib.hid (there_any h0 6 ((i : Int) + 1) b c)
  rw [ht] at HTH
  obtain ⟨c0, c1, c2, c3, f1, hlt⟩ := box4 gF
  have HCR : Hid (∀ W, Below w.heap.size w W → Calls Tryz.prog 36 #[.pointer (some ⟨G, 0, none⟩), .int .i64 ((i : Int) + 1), .int .i64 b] W (RetG ⟨g.ms.set i (fresh ((i : Int) + 1) g.ms.length (crashV p.2 b), crashV p.2 b), g.net⟩ G L (.tuple #[]) W)) := fun W hb => gcrash_any (h.below hb) i hp hgo.n16 hpo.vt hpo.le b (by rw [hpo.crash0 b]; exact (hpo.again hi hgo.n16).1)
  generalize crashV p.2 b = y at *
  clear h h0 ht hpo
  go_enter Tryz.func12, Tryz.ntmps12
  go_wp2_with (first
    | (go_at_call 27; refine HTH.out.mono ?_; rintro e w1 ⟨rfl, hb1⟩; have hw1 := hal.trans (hb1.mono hal.size); have g1 := blk_keep hb1 gF; clear c0 c1 c2 c3 f1 hlt; obtain ⟨c0, c1, c2, c3, f1, hlt⟩ := box4 g1)
    | (go_at_call 36; refine (HCR.out _ hw1).mono ?_; rintro e w2 ⟨L2, rfl, h2, S2⟩))
  go_ret
  rw [HR.out]
  exact ⟨rfl, L2, h2, (GStep.of_below hw1).trans S2⟩
set_option maxRecDepth 100000 in
set_option maxHeartbeats 6400000 in
theorem do_lose {w : World} {G : Nat} {L : GL} {g : Gr} (h : GAt w G L g) (k : Nat) (hk : k < g.net.length) (b c : Int) (hnet : g.net.length ≤ 1000000) (ht : g.there 4 (k : Int) = 0) :
    Calls Tryz.prog 12 #[.pointer (some ⟨G, 0, none⟩), itV 4 (k : Int) b c] w (RetE (g.take k, 0) G L w) := by
  obtain ⟨x, hx⟩ : ∃ x, g.net[k]? = some x := ⟨_, List.getElem?_eq_getElem hk⟩
  obtain ⟨s, hs⟩ : ∃ s, L.sl[k]? = some s := ⟨_, List.getElem?_eq_getElem (by rw [h.net.len]; exact hk)⟩
  have hal := below1 w (.cells #[.int .i64 4, .int .i64 (k : Int), .int .i64 b, .int .i64 c] 31)
  have gF := blk_new w (.cells #[.int .i64 4, .int .i64 (k : Int), .int .i64 b, .int .i64 c] 31)
  have h0 := h.below hal
  have HTH := Lib.hid (there_any h0 4 (k : Int) b c)
  rw [ht] at HTH
  obtain ⟨c0, c1, c2, c3, f1, hlt⟩ := box4 gF
  have HTK : Hid (∀ W, Below w.heap.size w W → Calls Tryz.prog 33 #[.pointer (some ⟨G, 0, none⟩), .int .i64 (k : Int)] W (RetTake g k x s G L W)) := fun W hb => take_any (h.below hb) k hx hs hnet
  clear h h0 ht
  go_enter Tryz.func12, Tryz.ntmps12
  go_wp2_with (first
    | (go_at_call 27; refine HTH.out.mono ?_; rintro e w1 ⟨rfl, hb1⟩; have hw1 := hal.trans (hb1.mono hal.size); have g1 := blk_keep hb1 gF; clear c0 c1 c2 c3 f1 hlt; obtain ⟨c0, c1, c2, c3, f1, hlt⟩ := box4 g1)
    | (go_at_call 33; refine (HTK.out _ hw1).mono ?_; rintro e w2 ⟨L2, rfl, h2, S2, own2, _⟩))
  go_ret
  exact ⟨rfl, L2, h2, (GStep.of_below hw1).trans S2⟩
end Go.Proofs.YtnljdkglncmfaaaGreat
