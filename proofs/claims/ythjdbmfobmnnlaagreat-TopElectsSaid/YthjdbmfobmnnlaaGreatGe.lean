/-
  Ge: several texts in one.
-/
import Derived.Test.YthjdbmfobmnnlaaGreatGrE
import Derived.Test.YthjdbmfobmnnlaaGreatBh
import Derived.Test.YthjdbmfobmnnlaaGreatRaftR
/-
  Items, one by one.
-/
namespace Go.Proofs.YthjdbmfobmnnlaaGreat
open Go.RowKit
set_option linter.unusedVariables false
theorem there_in {g : Gr} {k a : Int} (h : g.there k a = 0) (hk : k = 0 ∨ k = 1 ∨ k = 2 ∨ k = 6) : ∃ i : Nat, a = (i : Int) + 1 ∧ i < g.ms.length := by
  obtain ⟨h1, h2⟩ := GrOk.there_member h hk
  exact ⟨(a - 1).toNat, by omega, by omega⟩
set_option maxRecDepth 100000 in
set_option maxHeartbeats 6400000 in
theorem do_timeout {w : World} {G : Nat} {L : GL} {g : Gr} (hgo : GrOk g) (h : GAt w G L g) (i : Nat) {q : ML} {p : Mb × Vt} (hq : L.mem[i]? = some q) (hp : g.ms[i]? = some p) (b c : Int) (hnet : g.net.length ≤ 1000000) (ht : g.there 0 ((i : Int) + 1) = 0) :
    Calls Tryz.prog 7 #[.pointer (some ⟨G, 0, none⟩), itV 0 ((i : Int) + 1) b c] w (RetE (g.acts ((i : Int) + 1) p.1.timeout.1 p.1.timeout.2, 0) G L w) := by
  have hi : i < g.ms.length := (List.getElem?_eq_some_iff.1 hp).1
  have hpo := hgo.pair i p hp
  have hal := below1 w (.cells #[.int .i64 0, .int .i64 ((i : Int) + 1), .int .i64 b, .int .i64 c] 30)
  have gF := blk_new w (.cells #[.int .i64 0, .int .i64 ((i : Int) + 1), .int .i64 b, .int .i64 c] 30)
  have h0 := h.below hal
  have HTH := Lib.hid (there_any h0 0 ((i : Int) + 1) b c)
  rw [ht] at HTH
  have HOF : Hid (∀ W, Below w.heap.size w W → Calls Tryz.prog 27 #[.pointer (some ⟨G, 0, none⟩), .int .i64 ((i : Int) + 1)] W fun e w' => e = .returned (.pointer (some ⟨L.ma, i * 2, none⟩)) ∧ w' = W) := fun W hb => of_any (h.below hb) i hi hgo.n16
  have HPT : Hid (∀ W, Below w.heap.size w W → W.cell? ⟨L.ma, i * 2, none⟩ = some (.pointer (some ⟨q.b, 0, none⟩)) ∧ L.ma < W.heap.size) := fun W hb => ⟨((h.below hb).ptrs hq).1, ((h.below hb).ptrs hq).2.2.2.2⟩
  have HMA : Hid (∀ W, Below w.heap.size w W → MAt W q.b q.a p.1) := fun W hb => ((h.below hb).mem i q p hq hp).1
  have hFn : w.heap.size ∉ foot q.b q.a := fun hc => by have := (h.mem i q p hq hp).1.lt _ hc; omega
  have HTO : Hid (∀ W, MAt W q.b q.a p.1 → Calls Tryz.prog 28 #[.pointer (some ⟨q.b, 0, none⟩)] W (RetR p.1.timeout.1 p.1.timeout.2 q.b q.a W)) := fun W hW => timeout_any hW hpo.mb
  have HACT : Hid (∀ W0, Below w.heap.size w W0 → ∀ w' a' B A c sl, MAt w' q.b a' p.1.timeout.1 → Step W0 q.b q.a w' a' → W0.heap.size ≤ B → (∀ x ∈ foot q.b a', x < B) → MsAt w' B A c p.1.timeout.2 sl → Calls Tryz.prog 26 #[.pointer (some ⟨G, 0, none⟩), .int .i64 ((i : Int) + 1), .slice A p.1.timeout.2.length c] w' fun e w2 => e = .returned (.tuple #[]) ∧ ∃ L2, GAt w2 G L2 (g.acts ((i : Int) + 1) p.1.timeout.1 p.1.timeout.2) ∧ GStep W0 G L w2 L2) := fun W0 hb w' a' B A c sl k1 k2 k3 k4 k5 => acts_said hgo (h.below hb) hq hp hpo.inGr.timeout.1 k1 k2 k3 k4 k5 (timeout_le hpo.mb) hnet
  have HFG : Hid (∀ W0 w2 L2, Below w.heap.size w W0 → GStep W0 G L w2 L2 → W0.heap[w.heap.size]? = some (.cells #[.int .i64 0, .int .i64 ((i : Int) + 1), .int .i64 b, .int .i64 c] 30) → w2.heap[w.heap.size]? = some (.cells #[.int .i64 0, .int .i64 ((i : Int) + 1), .int .i64 b, .int .i64 c] 30)) := fun W0 w2 L2 hb hS hk => hS.chg.keep hk fun hc => by have := h.gltAll _ hc; omega
  obtain ⟨c0, c1, c2, c3, f1, hlt⟩ := box4 gF
  generalize p.1.timeout.1 = m' at *
  generalize p.1.timeout.2 = said at *
  clear h h0 hpo ht
  go_enter Tryz.func7, Tryz.ntmps7
  go_upto_region 13 with (go_at_call 25; refine HTH.out.mono ?_; rintro e w1 ⟨rfl, hb1⟩; have hw1 := hal.trans (hb1.mono hal.size); have g1 := blk_keep hb1 gF; clear c0 c1 c2 c3 f1 hlt; obtain ⟨c0, c1, c2, c3, f1, hlt⟩ := box4 g1)
  obtain ⟨p0, plt⟩ := HPT.out _ hw1
  have HO1 := Lib.hid (HOF.out _ hw1.drew)
  have HT1 := Lib.hid (HTO.out _ (HMA.out _ hw1.drew))
  go_region_law (first
    | (go_simp; go_at_call 27; refine HO1.out.mono ?_; rintro e wx ⟨rfl, hwx⟩; subst hwx; (try go_simp))
    | (go_simp; go_at_call 28; refine HT1.out.mono ?_; rintro e w2 ⟨a2, B2, A2, cc2, sl2, rfl, H2, S2, hB2, hF2, hms2⟩; have g2 := S2.keep (blk_drawn g1) hFn; obtain ⟨k0, k1, k2, k3, kf1, klt⟩ := box4 g2; have HA2 := Lib.hid (HACT.out _ hw1.drew _ _ _ _ _ _ H2 S2 hB2 hF2 hms2); (try go_simp))
    | (go_simp; go_at_call 26; refine HA2.out.mono ?_; rintro e w3 ⟨rfl, L3, h3, S3⟩; have g3 := HFG.out _ _ _ hw1.drew S3 (blk_drawn g1); obtain ⟨j0, j1, j2, j3, jf1, jlt⟩ := box4 g3; (try go_simp)))
  all_goals go_wp2
  all_goals go_ret
  all_goals exact ⟨rfl, L3, h3, (GStep.of_below hw1.drew).trans S3⟩
set_option maxRecDepth 100000 in
set_option maxHeartbeats 6400000 in
theorem do_beat {w : World} {G : Nat} {L : GL} {g : Gr} (hgo : GrOk g) (h : GAt w G L g) (i : Nat) {q : ML} {p : Mb × Vt} (hq : L.mem[i]? = some q) (hp : g.ms[i]? = some p) (b c : Int) (hnet : g.net.length ≤ 1000000) (ht : g.there 1 ((i : Int) + 1) = 0) :
    Calls Tryz.prog 7 #[.pointer (some ⟨G, 0, none⟩), itV 1 ((i : Int) + 1) b c] w (RetE (g.acts ((i : Int) + 1) p.1.beat.1 p.1.beat.2, 0) G L w) := by
  have hi : i < g.ms.length := (List.getElem?_eq_some_iff.1 hp).1
  have hpo := hgo.pair i p hp
  have hal := below1 w (.cells #[.int .i64 1, .int .i64 ((i : Int) + 1), .int .i64 b, .int .i64 c] 30)
  have gF := blk_new w (.cells #[.int .i64 1, .int .i64 ((i : Int) + 1), .int .i64 b, .int .i64 c] 30)
  have h0 := h.below hal
  have HTH := Lib.hid (there_any h0 1 ((i : Int) + 1) b c)
  rw [ht] at HTH
  have HOF : Hid (∀ W, Below w.heap.size w W → Calls Tryz.prog 27 #[.pointer (some ⟨G, 0, none⟩), .int .i64 ((i : Int) + 1)] W fun e w' => e = .returned (.pointer (some ⟨L.ma, i * 2, none⟩)) ∧ w' = W) := fun W hb => of_any (h.below hb) i hi hgo.n16
  have HPT : Hid (∀ W, Below w.heap.size w W → W.cell? ⟨L.ma, i * 2, none⟩ = some (.pointer (some ⟨q.b, 0, none⟩)) ∧ L.ma < W.heap.size) := fun W hb => ⟨((h.below hb).ptrs hq).1, ((h.below hb).ptrs hq).2.2.2.2⟩
  have HMA : Hid (∀ W, Below w.heap.size w W → MAt W q.b q.a p.1) := fun W hb => ((h.below hb).mem i q p hq hp).1
  have hFn : w.heap.size ∉ foot q.b q.a := fun hc => by have := (h.mem i q p hq hp).1.lt _ hc; omega
  have HTO : Hid (∀ W, MAt W q.b q.a p.1 → Calls Tryz.prog 29 #[.pointer (some ⟨q.b, 0, none⟩)] W (RetR p.1.beat.1 p.1.beat.2 q.b q.a W)) := fun W hW => beat_any hW hpo.mb
  have HACT : Hid (∀ W0, Below w.heap.size w W0 → ∀ w' a' B A c sl, MAt w' q.b a' p.1.beat.1 → Step W0 q.b q.a w' a' → W0.heap.size ≤ B → (∀ x ∈ foot q.b a', x < B) → MsAt w' B A c p.1.beat.2 sl → Calls Tryz.prog 26 #[.pointer (some ⟨G, 0, none⟩), .int .i64 ((i : Int) + 1), .slice A p.1.beat.2.length c] w' fun e w2 => e = .returned (.tuple #[]) ∧ ∃ L2, GAt w2 G L2 (g.acts ((i : Int) + 1) p.1.beat.1 p.1.beat.2) ∧ GStep W0 G L w2 L2) := fun W0 hb w' a' B A c sl k1 k2 k3 k4 k5 => acts_said hgo (h.below hb) hq hp hpo.inGr k1 k2 k3 k4 k5 (beat_le hpo.mb) hnet
  have HFG : Hid (∀ W0 w2 L2, Below w.heap.size w W0 → GStep W0 G L w2 L2 → W0.heap[w.heap.size]? = some (.cells #[.int .i64 1, .int .i64 ((i : Int) + 1), .int .i64 b, .int .i64 c] 30) → w2.heap[w.heap.size]? = some (.cells #[.int .i64 1, .int .i64 ((i : Int) + 1), .int .i64 b, .int .i64 c] 30)) := fun W0 w2 L2 hb hS hk => hS.chg.keep hk fun hc => by have := h.gltAll _ hc; omega
  obtain ⟨c0, c1, c2, c3, f1, hlt⟩ := box4 gF
  generalize p.1.beat.1 = m' at *
  generalize p.1.beat.2 = said at *
  clear h h0 hpo ht
  go_enter Tryz.func7, Tryz.ntmps7
  go_upto_region 14 with (go_at_call 25; refine HTH.out.mono ?_; rintro e w1 ⟨rfl, hb1⟩; have hw1 := hal.trans (hb1.mono hal.size); have g1 := blk_keep hb1 gF; clear c0 c1 c2 c3 f1 hlt; obtain ⟨c0, c1, c2, c3, f1, hlt⟩ := box4 g1)
  obtain ⟨p0, plt⟩ := HPT.out _ hw1
  have HO1 := Lib.hid (HOF.out _ hw1.drew)
  have HT1 := Lib.hid (HTO.out _ (HMA.out _ hw1.drew))
  go_region_law (first
    | (go_simp; go_at_call 27; refine HO1.out.mono ?_; rintro e wx ⟨rfl, hwx⟩; subst hwx; (try go_simp))
    | (go_simp; go_at_call 29; refine HT1.out.mono ?_; rintro e w2 ⟨a2, B2, A2, cc2, sl2, rfl, H2, S2, hB2, hF2, hms2⟩; have g2 := S2.keep (blk_drawn g1) hFn; obtain ⟨k0, k1, k2, k3, kf1, klt⟩ := box4 g2; have HA2 := Lib.hid (HACT.out _ hw1.drew _ _ _ _ _ _ H2 S2 hB2 hF2 hms2); (try go_simp))
    | (go_simp; go_at_call 26; refine HA2.out.mono ?_; rintro e w3 ⟨rfl, L3, h3, S3⟩; have g3 := HFG.out _ _ _ hw1.drew S3 (blk_drawn g1); obtain ⟨j0, j1, j2, j3, jf1, jlt⟩ := box4 g3; (try go_simp)))
  all_goals go_wp2
  all_goals go_ret
  all_goals exact ⟨rfl, L3, h3, (GStep.of_below hw1.drew).trans S3⟩
set_option maxRecDepth 100000 in
set_option maxHeartbeats 6400000 in
theorem do_not {w : World} {G : Nat} {L : GL} {g : Gr} (h : GAt w G L g) (k a b c : Int) (ht : g.there k a ≠ 0) :
    Calls Tryz.prog 7 #[.pointer (some ⟨G, 0, none⟩), itV k a b c] w (RetE (g, g.there k a) G L w) := by
  have HG := Lib.hid h
  have hal := below1 w (.cells #[.int .i64 k, .int .i64 a, .int .i64 b, .int .i64 c] 30)
  have gF := blk_new w (.cells #[.int .i64 k, .int .i64 a, .int .i64 b, .int .i64 c] 30)
  have HTH := Lib.hid (there_any (h.below hal) k a b c)
  obtain ⟨c0, c1, c2, c3, f1, hlt⟩ := box4 gF
  have hT : (g.there k a != 0) = true := by simpa using ht
  generalize g.there k a = T at *
  clear h ht
  go_enter Tryz.func7, Tryz.ntmps7
  go_wp2_with (go_at_call 25; refine HTH.out.mono ?_; rintro e w1 ⟨rfl, hb1⟩; have hw1 := hal.trans (hb1.mono hal.size))
  go_ret
  exact ⟨rfl, L, HG.out.below hw1, GStep.of_below hw1⟩
set_option maxRecDepth 100000 in
set_option maxHeartbeats 6400000 in
theorem do_propose {w : World} {G : Nat} {L : GL} {g : Gr} (hgo : GrOk g) (h : GAt w G L g) (i : Nat) {q : ML} {p : Mb × Vt} (hq : L.mem[i]? = some q) (hp : g.ms[i]? = some p) (b c : Int) (hnet : g.net.length ≤ 1000000) (ht : g.there 2 ((i : Int) + 1) = 0) :
    Calls Tryz.prog 7 #[.pointer (some ⟨G, 0, none⟩), itV 2 ((i : Int) + 1) b c] w (RetE (g.propose ((i : Int) + 1) b c) G L w) := by
  have hal := below1 w (.cells #[.int .i64 2, .int .i64 ((i : Int) + 1), .int .i64 b, .int .i64 c] 30)
  have gF := blk_new w (.cells #[.int .i64 2, .int .i64 ((i : Int) + 1), .int .i64 b, .int .i64 c] 30)
  have h0 := h.below hal
  have HTH := Lib.hid (there_any h0 2 ((i : Int) + 1) b c)
  rw [ht] at HTH
  obtain ⟨c0, c1, c2, c3, f1, hlt⟩ := box4 gF
  have HPR : Hid (∀ W, Below w.heap.size w W → Calls Tryz.prog 30 #[.pointer (some ⟨G, 0, none⟩), .int .i64 ((i : Int) + 1), .int .i64 b, .int .i64 c] W (RetE (g.propose ((i : Int) + 1) b c) G L W)) := fun W hb => gpropose_any hgo (h.below hb) i hq hp b c hnet
  generalize g.propose ((i : Int) + 1) b c = r at *
  clear h h0 ht
  go_enter Tryz.func7, Tryz.ntmps7
  go_wp2_with (first
    | (go_at_call 25; refine HTH.out.mono ?_; rintro e w1 ⟨rfl, hb1⟩; have hw1 := hal.trans (hb1.mono hal.size); have g1 := blk_keep hb1 gF; clear c0 c1 c2 c3 f1 hlt; obtain ⟨c0, c1, c2, c3, f1, hlt⟩ := box4 g1)
    | (go_at_call 30; refine (HPR.out _ hw1).mono ?_; rintro e w2 ⟨rfl, L2, h2, S2⟩))
  go_ret
  exact ⟨rfl, L2, h2, (GStep.of_below hw1).trans S2⟩
set_option maxRecDepth 100000 in
set_option maxHeartbeats 6400000 in
theorem do_crash {w : World} {G : Nat} {L : GL} {g : Gr} (hgo : GrOk g) (h : GAt w G L g) (i : Nat) {p : Mb × Vt} (hp : g.ms[i]? = some p) (b c : Int) (ht : g.there 6 ((i : Int) + 1) = 0) :
    Calls Tryz.prog 7 #[.pointer (some ⟨G, 0, none⟩), itV 6 ((i : Int) + 1) b c] w (RetE (g.crash ((i : Int) + 1) b, 0) G L w) := by
  have hi : i < g.ms.length := (List.getElem?_eq_some_iff.1 hp).1
  have hpo := hgo.pair i p hp
  have HR : Hid (g.crash ((i : Int) + 1) b = ⟨g.ms.set i (fresh ((i : Int) + 1) g.ms.length (crashV p.2 b), crashV p.2 b), g.net⟩) := by
    unfold Gr.crash Gr.anew Gr.set
    rw [Hid, at_idx hp, show ((i : Int) + 1 - 1).toNat = i by omega]
  have hal := below1 w (.cells #[.int .i64 6, .int .i64 ((i : Int) + 1), .int .i64 b, .int .i64 c] 30)
  have gF := blk_new w (.cells #[.int .i64 6, .int .i64 ((i : Int) + 1), .int .i64 b, .int .i64 c] 30)
  have h0 := h.below hal
  have HTH := Lib.hid (there_any h0 6 ((i : Int) + 1) b c)
  rw [ht] at HTH
  obtain ⟨c0, c1, c2, c3, f1, hlt⟩ := box4 gF
  have HCR : Hid (∀ W, Below w.heap.size w W → Calls Tryz.prog 34 #[.pointer (some ⟨G, 0, none⟩), .int .i64 ((i : Int) + 1), .int .i64 b] W (RetG ⟨g.ms.set i (fresh ((i : Int) + 1) g.ms.length (crashV p.2 b), crashV p.2 b), g.net⟩ G L (.tuple #[]) W)) := fun W hb => gcrash_any (h.below hb) i hp hgo.n16 hpo.vt hpo.le b (by rw [hpo.crash0 b]; exact (hpo.again hi hgo.n16).1)
  generalize crashV p.2 b = y at *
  clear h h0 ht hpo
  go_enter Tryz.func7, Tryz.ntmps7
  go_wp2_with (first
    | (go_at_call 25; refine HTH.out.mono ?_; rintro e w1 ⟨rfl, hb1⟩; have hw1 := hal.trans (hb1.mono hal.size); have g1 := blk_keep hb1 gF; clear c0 c1 c2 c3 f1 hlt; obtain ⟨c0, c1, c2, c3, f1, hlt⟩ := box4 g1)
    | (go_at_call 34; refine (HCR.out _ hw1).mono ?_; rintro e w2 ⟨L2, rfl, h2, S2⟩))
  go_ret
  rw [HR.out]
  exact ⟨rfl, L2, h2, (GStep.of_below hw1).trans S2⟩
set_option maxRecDepth 100000 in
set_option maxHeartbeats 6400000 in
theorem do_lose {w : World} {G : Nat} {L : GL} {g : Gr} (h : GAt w G L g) (k : Nat) (hk : k < g.net.length) (b c : Int) (hnet : g.net.length ≤ 1000000) (ht : g.there 4 (k : Int) = 0) :
    Calls Tryz.prog 7 #[.pointer (some ⟨G, 0, none⟩), itV 4 (k : Int) b c] w (RetE (g.take k, 0) G L w) := by
  obtain ⟨x, hx⟩ : ∃ x, g.net[k]? = some x := ⟨_, List.getElem?_eq_getElem hk⟩
  obtain ⟨s, hs⟩ : ∃ s, L.sl[k]? = some s := ⟨_, List.getElem?_eq_getElem (by rw [h.net.len]; exact hk)⟩
  have hal := below1 w (.cells #[.int .i64 4, .int .i64 (k : Int), .int .i64 b, .int .i64 c] 30)
  have gF := blk_new w (.cells #[.int .i64 4, .int .i64 (k : Int), .int .i64 b, .int .i64 c] 30)
  have h0 := h.below hal
  have HTH := Lib.hid (there_any h0 4 (k : Int) b c)
  rw [ht] at HTH
  obtain ⟨c0, c1, c2, c3, f1, hlt⟩ := box4 gF
  have HTK : Hid (∀ W, Below w.heap.size w W → Calls Tryz.prog 31 #[.pointer (some ⟨G, 0, none⟩), .int .i64 (k : Int)] W (RetTake g k x s G L W)) := fun W hb => take_any (h.below hb) k hx hs hnet
  clear h h0 ht
  go_enter Tryz.func7, Tryz.ntmps7
  go_wp2_with (first
    | (go_at_call 25; refine HTH.out.mono ?_; rintro e w1 ⟨rfl, hb1⟩; have hw1 := hal.trans (hb1.mono hal.size); have g1 := blk_keep hb1 gF; clear c0 c1 c2 c3 f1 hlt; obtain ⟨c0, c1, c2, c3, f1, hlt⟩ := box4 g1)
    | (go_at_call 31; refine (HTK.out _ hw1).mono ?_; rintro e w2 ⟨L2, rfl, h2, S2, own2, _⟩))
  go_ret
  exact ⟨rfl, L2, h2, (GStep.of_below hw1).trans S2⟩
end Go.Proofs.YthjdbmfobmnnlaaGreat

/-
  A message comes.
-/
namespace Go.Proofs.YthjdbmfobmnnlaaGreat
open Go.RowKit
set_option linter.unusedVariables false
set_option maxRecDepth 100000 in
set_option maxHeartbeats 6400000 in
theorem do_deliver {w : World} {G : Nat} {L : GL} {g : Gr} (hgo : GrOk g) (h : GAt w G L g) (k : Nat) {x : Ms} (hx : g.net[k]? = some x) (b c : Int) (hnet : g.net.length ≤ 1000000) (ht : g.there 3 (k : Int) = 0) :
    Calls Tryz.prog 7 #[.pointer (some ⟨G, 0, none⟩), itV 3 (k : Int) b c] w (RetE ((g.take k).hears x, 0) G L w) := by
  obtain ⟨hk, hkx⟩ := List.getElem?_eq_some_iff.1 hx
  have hmo : MsOk g.ms.length x := hgo.net x (by rw [← hkx]; exact List.getElem_mem hk)
  obtain ⟨s, hs⟩ : ∃ s, L.sl[k]? = some s := ⟨_, List.getElem?_eq_getElem (by rw [h.net.len]; exact hk)⟩
  obtain ⟨i, hxi⟩ : ∃ i : Nat, x.dst = (i : Int) + 1 := ⟨(x.dst - 1).toNat, by have := hmo.dst; omega⟩
  have hi : i < g.ms.length := by have := hmo.dst; omega
  obtain ⟨p, hp⟩ : ∃ p, g.ms[i]? = some p := ⟨_, List.getElem?_eq_getElem hi⟩
  obtain ⟨q, hq⟩ := h.slots hi
  have hpo := hgo.pair i p hp
  have hgt := hgo.take k
  have hpt : (g.take k).ms[i]? = some p := hp
  have hsep := h.sep s (List.mem_of_getElem? hs)
  have hal := below1 w (.cells #[.int .i64 3, .int .i64 (k : Int), .int .i64 b, .int .i64 c] 30)
  have gF := blk_new w (.cells #[.int .i64 3, .int .i64 (k : Int), .int .i64 b, .int .i64 c] 30)
  have h0 := h.below hal
  have HTH := Lib.hid (there_any h0 3 (k : Int) b c)
  rw [ht] at HTH
  obtain ⟨c0, c1, c2, c3, f1, hlt⟩ := box4 gF
  have HTK : Hid (∀ W, Below w.heap.size w W → Calls Tryz.prog 31 #[.pointer (some ⟨G, 0, none⟩), .int .i64 (k : Int)] W (RetTake g k x s G L W)) := fun W hb => take_any (h.below hb) k hx hs hnet
  have HHE : Hid (∀ W, MAt W q.b q.a p.1 → W.ownsRow 0 82 7 (.slice s.1 x.ents.length s.2) x.ents.length (ensV x.ents) → Calls Tryz.prog 32 #[.pointer (some ⟨q.b, 0, none⟩), x.val s.1 s.2] W (RetR (p.1.hear x).1 (p.1.hear x).2 q.b q.a W)) := fun W hM ho => hear_any hM hpo.mb x s.1 s.2 (wf64 (by have := hmo.kind; omega) (by have := hmo.kind; omega)) (wf64 (by have := hmo.index; omega) (by have := hmo.index; omega)) fun _ => ⟨LogIn.of_own ho, by have := hmo.len; omega, fun _ y hy => hsep y hy q (List.mem_of_getElem? hq)⟩
  have HACT : Hid (∀ W0 L1, GAt W0 G L1 (g.take k) → L1.mem = L.mem → ∀ w' a' B A cc sl, MAt w' q.b a' (p.1.hear x).1 → Step W0 q.b q.a w' a' → W0.heap.size ≤ B → (∀ x ∈ foot q.b a', x < B) → MsAt w' B A cc (p.1.hear x).2 sl → Calls Tryz.prog 26 #[.pointer (some ⟨G, 0, none⟩), .int .i64 ((i : Int) + 1), .slice A (p.1.hear x).2.length cc] w' fun e w2 => e = .returned (.tuple #[]) ∧ ∃ L2, GAt w2 G L2 ((g.take k).acts ((i : Int) + 1) (p.1.hear x).1 (p.1.hear x).2) ∧ GStep W0 G L1 w2 L2) := fun W0 L1 h1 hmem w' a' B A cc sl k1 k2 k3 k4 k5 => acts_said hgt h1 (by rw [hmem]; exact hq) hpt (hpo.inGr.hear hmo).1 k1 k2 k3 k4 k5 (hear_le hpo.mb x) (by have : (g.take k).net.length ≤ g.net.length := List.length_eraseIdx_le ..; omega)
  have HR : Hid ((g.take k).hears x = (g.take k).acts ((i : Int) + 1) (p.1.hear x).1 (p.1.hear x).2) := by
    unfold Gr.hears
    rw [Hid, hxi, at_idx hpt]
  have hn16 := hgo.n16
  have HOF : Hid (∀ W L1, GAt W G L1 (g.take k) → Calls Tryz.prog 27 #[.pointer (some ⟨G, 0, none⟩), .int .i64 ((i : Int) + 1)] W fun e w' => e = .returned (.pointer (some ⟨L1.ma, i * 2, none⟩)) ∧ w' = W) := fun W L1 h1 => of_any h1 i hi hn16
  generalize p.1.hear x = r at *
  obtain ⟨m', said⟩ := r
  simp only at HHE HACT HR
  generalize (g.take k).hears x = gr at *
  obtain ⟨xk, xf, xd, xt, xi, xl, xc, xy, xe⟩ := x
  obtain ⟨sa, sc⟩ := s
  simp only at hxi
  subst hxi
  simp only at HHE
  clear h h0 ht hmo hpo hsep hx hkx
  go_enter Tryz.func7, Tryz.ntmps7
  go_upto_region 17 with (first
    | (go_at_call 25; refine HTH.out.mono ?_; rintro e w1 ⟨rfl, hb1⟩; have hw1 := hal.trans (hb1.mono hal.size); have g1 := blk_keep hb1 gF; clear c0 c1 c2 c3 f1 hlt; obtain ⟨c0, c1, c2, c3, f1, hlt⟩ := box4 g1)
    | (go_at_call 31; refine (HTK.out _ hw1).mono ?_; rintro e w2 ⟨L2, rfl, h2, S2, own2, hmem2⟩))
  have hal2 := below1 w2 (.cells #[.int .i64 xk, .int .i64 xf, .int .i64 ((i : Int) + 1), .int .i64 xt, .int .i64 xi, .int .i64 xl, .int .i64 xc, .bool xy, .slice sa xe.length sc] 70)
  have g3 := blk_new w2 (.cells #[.int .i64 xk, .int .i64 xf, .int .i64 ((i : Int) + 1), .int .i64 xt, .int .i64 xi, .int .i64 xl, .int .i64 xc, .bool xy, .slice sa xe.length sc] 70)
  have h3 := h2.below hal2
  have own3 := own_below own2 hal2
  have hq2 : L2.mem[i]? = some q := by rw [hmem2]; exact hq
  have hM3 := (h3.mem i q p hq2 hpt).1
  have hFn : w2.heap.size ∉ foot q.b q.a := fun hc => by have := (h2.mem i q p hq2 hpt).1.lt _ hc; omega
  obtain ⟨r0, _, _, _, rlt⟩ := h3.ptrs hq2
  have S3 := ((GStep.of_below hw1).trans S2).below hal2
  generalize w2.alloc (.cells #[.int .i64 xk, .int .i64 xf, .int .i64 ((i : Int) + 1), .int .i64 xt, .int .i64 xi, .int .i64 xl, .int .i64 xc, .bool xy, .slice sa xe.length sc] 70) = w3 at *
  generalize w2.heap.size = F6 at *
  obtain ⟨y0, y1, y2, y3, y4, y5, y6, y7, y8⟩ := box9 g3
  have ylt := blk_lt g3
  have HO3 := Lib.hid (HOF.out _ _ h3.drew)
  have HE3 := Lib.hid (HHE.out _ hM3.drew (own_drawn own3))
  have HH3 := Lib.hid h3.drew
  go_region_law (first
    | (go_simp; go_at_call 27; refine HO3.out.mono ?_; rintro e wx ⟨rfl, hwx⟩; subst hwx; (try go_simp))
    | (go_simp; go_at_call 32; refine HE3.out.mono ?_; rintro e w4 ⟨a4, B4, A4, cc4, sl4, rfl, H4, T4, hB4, hF4, hms4⟩; have g4 := T4.keep (blk_drawn g3) hFn; obtain ⟨z0, z1, z2, z3, z4, z5, z6, z7, z8⟩ := box9 g4; have zlt := blk_lt g4; have HA4 := Lib.hid (HACT.out _ _ HH3.out hmem2 _ _ _ _ _ _ H4 T4 hB4 hF4 hms4); (try go_simp))
    | (go_simp; go_at_call 26; refine HA4.out.mono ?_; rintro e w5 ⟨rfl, L5, h5, S5⟩; (try go_simp)))
  all_goals go_wp2
  all_goals go_ret
  all_goals (
    rw [HR.out]
    exact ⟨rfl, L5, h5, (S3.below (Below.refl _ _).drew).trans S5⟩)
end Go.Proofs.YthjdbmfobmnnlaaGreat

/-
  A message is doubled.
-/
namespace Go.Proofs.YthjdbmfobmnnlaaGreat
open Go.RowKit
set_option linter.unusedVariables false
set_option maxRecDepth 100000 in
set_option maxHeartbeats 6400000 in
theorem do_double {w : World} {G : Nat} {L : GL} {g : Gr} (h : GAt w G L g) (k : Nat) {x : Ms} (hx : g.net[k]? = some x) (b c : Int) (hnet : g.net.length ≤ 1000000) (ht : g.there 5 (k : Int) = 0) :
    Calls Tryz.prog 7 #[.pointer (some ⟨G, 0, none⟩), itV 5 (k : Int) b c] w (RetE (⟨g.ms, g.net ++ [x]⟩, 0) G L w) := by
  obtain ⟨hk, hkx⟩ := List.getElem?_eq_some_iff.1 hx
  obtain ⟨s, hs⟩ : ∃ s, L.sl[k]? = some s := ⟨_, List.getElem?_eq_getElem (by rw [h.net.len]; exact hk)⟩
  have hal := below1 w (.cells #[.int .i64 5, .int .i64 (k : Int), .int .i64 b, .int .i64 c] 30)
  have gF := blk_new w (.cells #[.int .i64 5, .int .i64 (k : Int), .int .i64 b, .int .i64 c] 30)
  have h0 := h.below hal
  have HTH := Lib.hid (there_any h0 5 (k : Int) b c)
  rw [ht] at HTH
  obtain ⟨c0, c1, c2, c3, f1, hlt⟩ := box4 gF
  have HG := Lib.hid h
  have hk0 : (0 : Int) ≤ (k : Int) := by omega
  have hk1 : (k : Int) < (g.net.length : Int) := by omega
  have hent := Lib.hid (h.net.ent hx hs)
  have hFG : w.heap.size ≠ G := by have := blk_lt h.blk; omega
  obtain ⟨xk, xf, xd, xt, xi, xl, xc, xy, xe⟩ := x
  obtain ⟨sa, sc⟩ := s
  clear h h0 ht
  go_enter Tryz.func7, Tryz.ntmps7
  go_upto_region 18 with (go_at_call 25; refine HTH.out.mono ?_; rintro e w1 ⟨rfl, hb1⟩; have hw1 := hal.trans (hb1.mono hal.size); have g1 := blk_keep hb1 gF; clear c0 c1 c2 c3 f1 hlt; obtain ⟨c0, c1, c2, c3, f1, hlt⟩ := box4 g1)
  have h1 := HG.out.below hw1
  obtain ⟨g0, g1c, gf0, gf1, glt⟩ := h1.cells
  obtain ⟨nb, noff, hna, nblt, x0, x1, x2, x3, x4, x5, x6, x7, x8⟩ := msg_nine (RowAt.of_own h1.net.own) hx hs
  simp only at x0 x1 x2 x3 x4 x5 x6 x7 x8
  have ho1 := h1.net.own
  have hone : ∀ u ∈ (Ms.mk xk xf xd xt xi xl xc xy xe).cells sa sc, u.oneCell' = true := msC_one _ _ _
  have HG1 := Lib.hid h1.blk
  have hGne : ∀ b, (Value.slice L.na g.net.length L.nc).ownBlock = some b → b ≠ G := fun b hb e => by
    subst e
    obtain ⟨cs, hcs⟩ := own_kind ho1 (gownBlock_mem hb)
    exact ne_kind hcs h1.blk (by decide) rfl
  have hna2 := hna
  rw [hna] at g1c ho1 hGne
  clear h1
  go_region_law (first
    | (refine step_append_row rfl (.tmp 85) (.tmp 94) rfl elemM 0 (.slice (some ⟨nb, noff, none⟩) g.net.length L.nc) g.net.length (msV g.net L.sl) (by rfl) (own_below ho1 ((below0 w1).drew.alloc (Nat.le_refl _) _)) (some ⟨w1.heap.size, 0, none⟩) 1 1 ((Ms.mk xk xf xd xt xi xl xc xy xe).cells sa sc) (by rfl) (by rfl) (RowAt.new w1.drew _ _) hone (by unfold maxLen; omega) (by omega) (Nat.zero_le _) (fun h => by cases h) ?_; intro a3 c3 w3 own3 hg3 hat3; have G3 := blk_grown hg3 (blk_alloc (blk_drawn HG1.out) (.cells ((Ms.mk xk xf xd xt xi xl xc xy xe).cells sa sc).toArray 70)) (fun e => hGne _ e rfl); obtain ⟨k0, k1, kf0, kf1, klt⟩ := box2 G3; (try go_simp)))
  all_goals go_wp2
  all_goals go_ret
  all_goals (
    have hbW : Below w.heap.size w (w1.drew.alloc (.cells ((Ms.mk xk xf xd xt xi xl xc xy xe).cells sa sc).toArray 70)) := (hw1.drew).trans ((below1 w1.drew _).mono hw1.size)
    have hC3 : Chg (blkOf L.na) w w3 := (Chg.of_below hbW).grown hg3 fun b hb => .inl (by rw [hna2]; exact gownBlock_mem hb)
    have hK : ∀ {B : Option Addr} {n cap : Nat} {xs : List Value}, w.ownsRow 0 82 7 (.slice B n cap) n xs → w3.ownsRow 0 82 7 (.slice B n cap) n xs := fun ho => own_chg ho hC3 fun y hy hA => by
      obtain ⟨cs, k1⟩ := own_kind ho hy
      obtain ⟨ds, k2⟩ := own_kind HG.out.net.own hA
      exact ne_kind k1 k2 (by decide) rfl
    have hms : MsAt w3 0 a3 c3 (g.net ++ [⟨xk, xf, xd, xt, xi, xl, xc, xy, xe⟩]) (L.sl ++ [(sa, sc)]) := by
      refine MsAt.mk2 (by rw [msV_snoc HG.out.net.len, List.length_append]; exact own3) (by simp [HG.out.net.len]) fun j y t hy ht => ?_
      by_cases hj : j < g.net.length
      · rw [List.getElem?_append_left hj] at hy
        rw [List.getElem?_append_left (by rw [HG.out.net.len]; exact hj)] at ht
        exact hK (HG.out.net.ent hy ht)
      · rw [List.getElem?_append_right (by omega)] at hy
        rw [List.getElem?_append_right (by rw [HG.out.net.len]; omega), HG.out.net.len] at ht
        have hj0 : j - g.net.length = 0 := by
          have := (List.getElem?_eq_some_iff.1 hy).1
          simp at this
          omega
        rw [hj0] at hy ht
        simp at hy ht
        subst hy ht
        exact hK hent.out
    obtain ⟨hG4, hC4, hS4⟩ := HG.out.netTo (B0 := w.heap.size) hC3 hms (fun s' hs' y hy r hr => by
      rcases List.mem_append.1 hs' with h1 | h1
      · exact HG.out.sep s' h1 y hy r hr
      · rw [List.mem_singleton] at h1; subst h1
        exact HG.out.sep _ (List.mem_of_getElem? hs) y hy r hr) (fun y hy => by
      rcases hat3 with h1 | h1
      · exact .inl (by rw [hna2]; exact gownBlock_mem (h1.symm.trans (gownBlock_of hy)))
      · have := (gownBlock_of (n := g.net.length + 1) (c := c3) hy).symm.trans h1
        injection this with this
        have h2 := hw1.size
        have h3 : (w1.drew.alloc (.cells ((Ms.mk xk xf xd xt xi xl xc xy xe).cells sa sc).toArray 70)).heap.size = w1.heap.size + 1 := by simp
        exact .inr (by first | omega | (simp at this; omega))) (fun s' hs' y hy => by
      rcases List.mem_append.1 hs' with h1 | h1
      · exact .inl (gall_s h1 hy)
      · rw [List.mem_singleton] at h1; subst h1
        exact .inl (gall_s (List.mem_of_getElem? hs) hy))
    have e : (g.net ++ [(⟨xk, xf, xd, xt, xi, xl, xc, xy, xe⟩ : Ms)]).length = g.net.length + 1 := by simp
    rw [e] at hG4 hC4
    exact ⟨rfl, _, hG4, hC4, hS4⟩)
end Go.Proofs.YthjdbmfobmnnlaaGreat

/-
  A message comes to who crashes.
-/
namespace Go.Proofs.YthjdbmfobmnnlaaGreat
open Go.RowKit
set_option linter.unusedVariables false
set_option maxRecDepth 100000 in
set_option maxHeartbeats 6400000 in
theorem do_torn {w : World} {G : Nat} {L : GL} {g : Gr} (hgo : GrOk g) (h : GAt w G L g) (k : Nat) {x : Ms} (hx : g.net[k]? = some x) (b c : Int) (hnet : g.net.length ≤ 1000000) (ht : g.there 7 (k : Int) = 0) :
    Calls Tryz.prog 7 #[.pointer (some ⟨G, 0, none⟩), itV 7 (k : Int) b c] w (RetE ((g.take k).torn x b, 0) G L w) := by
  obtain ⟨hk, hkx⟩ := List.getElem?_eq_some_iff.1 hx
  have hmo : MsOk g.ms.length x := hgo.net x (by rw [← hkx]; exact List.getElem_mem hk)
  obtain ⟨s, hs⟩ : ∃ s, L.sl[k]? = some s := ⟨_, List.getElem?_eq_getElem (by rw [h.net.len]; exact hk)⟩
  obtain ⟨i, hxi⟩ : ∃ i : Nat, x.dst = (i : Int) + 1 := ⟨(x.dst - 1).toNat, by have := hmo.dst; omega⟩
  have hi : i < g.ms.length := by have := hmo.dst; omega
  obtain ⟨p, hp⟩ : ∃ p, g.ms[i]? = some p := ⟨_, List.getElem?_eq_getElem hi⟩
  obtain ⟨q, hq⟩ := h.slots hi
  have hpo := hgo.pair i p hp
  have hpt : (g.take k).ms[i]? = some p := hp
  have hsep := h.sep s (List.mem_of_getElem? hs)
  have hltG := h.gltAll
  have hal := below1 w (.cells #[.int .i64 7, .int .i64 (k : Int), .int .i64 b, .int .i64 c] 30)
  have gF := blk_new w (.cells #[.int .i64 7, .int .i64 (k : Int), .int .i64 b, .int .i64 c] 30)
  have h0 := h.below hal
  have HTH := Lib.hid (there_any h0 7 (k : Int) b c)
  rw [ht] at HTH
  obtain ⟨c0, c1, c2, c3, f1, hlt⟩ := box4 gF
  have HTK : Hid (∀ W, Below w.heap.size w W → Calls Tryz.prog 31 #[.pointer (some ⟨G, 0, none⟩), .int .i64 (k : Int)] W (RetTake g k x s G L W)) := fun W hb => take_any (h.below hb) k hx hs hnet
  have HHE : Hid (∀ W, MAt W q.b q.a p.1 → W.ownsRow 0 82 7 (.slice s.1 x.ents.length s.2) x.ents.length (ensV x.ents) → Calls Tryz.prog 32 #[.pointer (some ⟨q.b, 0, none⟩), x.val s.1 s.2] W (RetR (p.1.hear x).1 (p.1.hear x).2 q.b q.a W)) := fun W hM ho => hear_any hM hpo.mb x s.1 s.2 (wf64 (by have := hmo.kind; omega) (by have := hmo.kind; omega)) (wf64 (by have := hmo.index; omega) (by have := hmo.index; omega)) fun _ => ⟨LogIn.of_own ho, by have := hmo.len; omega, fun _ y hy => hsep y hy q (List.mem_of_getElem? hq)⟩
  have hin := (hpo.inGr.hear hmo).1
  have hn16 := hgo.n16
  have HSV : Hid (∀ W L1, GAt W G L1 ⟨g.ms.set i ((p.1.hear x).1, p.2), g.net.eraseIdx k⟩ → Calls Tryz.prog 33 #[.pointer (some ⟨G, 0, none⟩), .int .i64 ((i : Int) + 1)] W fun e w' => ∃ se L', e = .returned (.int .i64 se) ∧ GAt w' G L' ⟨g.ms.set i ((p.1.hear x).1, saved (p.1.hear x).1 p.2), g.net.eraseIdx k⟩ ∧ GStep W G L1 w' L') := fun W L1 h1 => by
    obtain ⟨q1, hq1⟩ := h1.slots (i := i) (by simp only [List.length_set]; exact hi)
    have := gsave_any h1 i (p := ((p.1.hear x).1, p.2)) hq1 (by simp [hi]) (by simp only [List.length_set]; exact hn16) hin.mb hin.wf hpo.vt hpo.le
    simp only [List.set_set] at this
    refine this.mono ?_
    rintro e w' ⟨L', rfl, h2, S2⟩
    exact ⟨_, L', rfl, h2, S2⟩
  have hcr := (hpo.crash hi hn16 hin (rises_hear hpo.mb x).term b)
  have HCR : Hid (∀ W L1, GAt W G L1 ⟨g.ms.set i ((p.1.hear x).1, saved (p.1.hear x).1 p.2), g.net.eraseIdx k⟩ → Calls Tryz.prog 34 #[.pointer (some ⟨G, 0, none⟩), .int .i64 ((i : Int) + 1), .int .i64 b] W (RetG ⟨g.ms.set i (fresh ((i : Int) + 1) g.ms.length (crashV (saved (p.1.hear x).1 p.2) b), crashV (saved (p.1.hear x).1 p.2) b), g.net.eraseIdx k⟩ G L1 (.tuple #[]) W)) := fun W L1 h1 => by
    have := gcrash_any h1 i (p := ((p.1.hear x).1, saved (p.1.hear x).1 p.2)) (by simp [hi]) (by simp only [List.length_set]; exact hn16) (saveV_ok hpo.vt _ _ _ _ _) (saveV_le hpo.le) b (by simp only [List.length_set]; exact hcr.1)
    simpa only [List.set_set, List.length_set] using this
  have HR : Hid ((g.take k).torn x b = ⟨g.ms.set i (fresh ((i : Int) + 1) g.ms.length (crashV (saved (p.1.hear x).1 p.2) b), crashV (saved (p.1.hear x).1 p.2) b), g.net.eraseIdx k⟩) := by
    unfold Gr.torn Gr.anew Gr.set
    rw [Hid, hxi, at_idx hpt, show ((i : Int) + 1 - 1).toNat = i by omega]
    rfl
  have HOF : Hid (∀ W L1, GAt W G L1 (g.take k) → Calls Tryz.prog 27 #[.pointer (some ⟨G, 0, none⟩), .int .i64 ((i : Int) + 1)] W fun e w' => e = .returned (.pointer (some ⟨L1.ma, i * 2, none⟩)) ∧ w' = W) := fun W L1 h1 => of_any h1 i hi hn16
  generalize fresh ((i : Int) + 1) g.ms.length (crashV (saved (p.1.hear x).1 p.2) b) = mf at *
  generalize crashV (saved (p.1.hear x).1 p.2) b = yf at *
  generalize saved (p.1.hear x).1 p.2 = sf at *
  clear hin hcr
  generalize p.1.hear x = r at *
  obtain ⟨m', said⟩ := r
  simp only at HHE HSV HCR
  generalize (g.take k).torn x b = gr at *
  obtain ⟨xk, xf, xd, xt, xi, xl, xc, xy, xe⟩ := x
  obtain ⟨sa, sc⟩ := s
  simp only at hxi
  subst hxi
  simp only at HHE
  clear h h0 ht hmo hpo hsep hx hkx
  go_enter Tryz.func7, Tryz.ntmps7
  go_upto_region 21 with (first
    | (go_at_call 25; refine HTH.out.mono ?_; rintro e w1 ⟨rfl, hb1⟩; have hw1 := hal.trans (hb1.mono hal.size); have g1 := blk_keep hb1 gF; clear c0 c1 c2 c3 f1 hlt; obtain ⟨c0, c1, c2, c3, f1, hlt⟩ := box4 g1)
    | (go_at_call 31; refine (HTK.out _ hw1).mono ?_; rintro e w2 ⟨L2, rfl, h2, S2, own2, hmem2⟩))
  have hal2 := below1 w2 (.cells #[.int .i64 xk, .int .i64 xf, .int .i64 ((i : Int) + 1), .int .i64 xt, .int .i64 xi, .int .i64 xl, .int .i64 xc, .bool xy, .slice sa xe.length sc] 70)
  have g3 := blk_new w2 (.cells #[.int .i64 xk, .int .i64 xf, .int .i64 ((i : Int) + 1), .int .i64 xt, .int .i64 xi, .int .i64 xl, .int .i64 xc, .bool xy, .slice sa xe.length sc] 70)
  have h3 := h2.below hal2
  have own3 := own_below own2 hal2
  have hq2 : L2.mem[i]? = some q := by rw [hmem2]; exact hq
  have hM3 := (h3.mem i q p hq2 hpt).1
  have hFn : w2.heap.size ∉ foot q.b q.a := fun hc => by have := (h2.mem i q p hq2 hpt).1.lt _ hc; omega
  have hFn2 : w2.heap.size ∉ gall G L2 := fun hc => by have := h2.gltAll _ hc; omega
  have hz1 := hw1.size
  have hIn2 : w.heap.size ∉ gall G L2 := fun hc => by
    rcases S2.sub _ hc with h4 | h4
    · have := hltG _ h4; omega
    · have := blk_lt g1; omega
  have hI : w.heap.size ∉ gall G L := fun hc => by have := hltG _ hc; omega
  have i3 := blk_keep hal2 (S2.chg.keep g1 hI)
  obtain ⟨r0, _, _, _, rlt⟩ := h3.ptrs hq2
  have S3 := ((GStep.of_below hw1).trans S2).below hal2
  clear c0 c1 c2 c3 f1 hlt
  have hzz := blk_lt (S2.chg.keep g1 hI)
  generalize w2.alloc (.cells #[.int .i64 xk, .int .i64 xf, .int .i64 ((i : Int) + 1), .int .i64 xt, .int .i64 xi, .int .i64 xl, .int .i64 xc, .bool xy, .slice sa xe.length sc] 70) = w3 at *
  generalize w2.heap.size = F6 at *
  obtain ⟨y0, y1, y2, y3, y4, y5, y6, y7, y8⟩ := box9 g3
  have ylt := blk_lt g3
  have HO3 := Lib.hid (HOF.out _ _ h3.drew)
  have HE3 := Lib.hid (HHE.out _ hM3.drew (own_drawn own3))
  have HH3 := Lib.hid h3.drew
  go_cut [109] (fun cc wx => ∃ L4, GAt wx G L4 ⟨g.ms.set i (m', p.2), g.net.eraseIdx k⟩ ∧ GStep w G L wx L4 ∧ wx.heap[F6]? = some (.cells #[.int .i64 xk, .int .i64 xf, .int .i64 ((i : Int) + 1), .int .i64 xt, .int .i64 xi, .int .i64 xl, .int .i64 xc, .bool xy, .slice sa xe.length sc] 70) ∧ wx.heap[w.heap.size]? = some (.cells #[.int .i64 7, .int .i64 (k : Int), .int .i64 b, .int .i64 c] 30) ∧ F6 ∉ gall G L4 ∧ w.heap.size ∉ gall G L4)
  case first =>
    go_region_law (first
      | (go_simp; go_at_call 27; refine HO3.out.mono ?_; rintro e wx ⟨rfl, hwx⟩; subst hwx; (try go_simp))
      | (go_simp; go_at_call 32; refine HE3.out.mono ?_; rintro e w4 ⟨a4, B4, A4, cc4, sl4, rfl, H4, T4, hB4, hF4, hms4⟩; have g4 := T4.keep (blk_drawn g3) hFn; obtain ⟨z0, z1, z2, z3, z4, z5, z6, z7, z8⟩ := box9 g4; have zlt := blk_lt g4; (try go_simp)))
    all_goals (go_wp2_with fail; go_meet)
    all_goals (
      obtain ⟨h5, S5⟩ := HH3.out.step hq2 hpt H4 T4
      have hout : ∀ {y : Nat}, y < w3.drew.heap.size → y ∉ gall G L2 → y ∉ gall G (L2.put i { q with a := a4 }) := fun hy hn => S5.far hy hn
      exact ⟨_, h5, (S3.below (Below.refl _ _).drew).trans S5, g4, S5.chg.keep (blk_drawn i3) hIn2, hout (blk_lt g3) hFn2, hout (blk_lt i3) hIn2⟩)
  case rest =>
    obtain ⟨L4, h4, S4, g4, i4, n4, m4⟩ := hcut
    clear y0 y1 y2 y3 y4 y5 y6 y7 y8 ylt r0 rlt
    obtain ⟨z0, z1, z2, z3, z4, z5, z6, z7, z8⟩ := box9 g4
    have zlt := blk_lt g4
    obtain ⟨i0, i1, i2, i3', if1, ilt⟩ := box4 i4
    have HS4 := Lib.hid (HSV.out _ _ h4)
    go_wp2_with (first
      | (go_at_call 33; refine HS4.out.mono ?_; rintro e w5 ⟨se, L5, rfl, h5, S5⟩; have g5 := S5.chg.keep g4 n4; have i5 := S5.chg.keep i4 m4; have m5 := S5.far (blk_lt i4) m4; have hC6 : Chg [w.heap.size] w5 (w5.setCell ⟨w.heap.size, 1, none⟩ (.int .i64 ((i : Int) + 1))) := ((Chg.refl _ _).setCell (.inl (by simp)) _ _); have h6 := h5.chgOut hC6 (fun y hy hc => by rw [List.mem_singleton] at hc; subst hc; exact m5 hy); have S6 : GStep w G L (w5.setCell ⟨w.heap.size, 1, none⟩ (.int .i64 ((i : Int) + 1))) L5 := ⟨((S4.trans S5).chg).setCell (.inr (Nat.le_refl _)) _ _, (S4.trans S5).sub⟩; have HC6 := Lib.hid (HCR.out _ _ h6); clear z0 z1 z2 z3 z4 z5 z6 z7 z8 zlt i0 i1 i2 i3' if1 ilt; obtain ⟨z0, z1, z2, z3, z4, z5, z6, z7, z8⟩ := box9 g5; have zlt := blk_lt g5; obtain ⟨i0, i1, i2, i3', if1, ilt⟩ := box4 i5)
      | (go_at_call 34; refine HC6.out.mono ?_; rintro e w7 ⟨L7, rfl, h7, S7⟩))
    go_ret
    rw [HR.out]
    exact ⟨rfl, L7, h7, S6.trans S7⟩
end Go.Proofs.YthjdbmfobmnnlaaGreat

/-
  An item is done.
-/
namespace Go.Proofs.YthjdbmfobmnnlaaGreat
open Go.RowKit
set_option linter.unusedVariables false
theorem msg_idx {g : Gr} {k : Nat} {x : Ms} (hx : g.net[k]? = some x) : g.msg k = x := by
  unfold Gr.msg
  rw [List.getD_eq_getElem?_getD, hx]
  rfl
/-- An item is done. -/
theorem do_any {w : World} {G : Nat} {L : GL} {g : Gr} (hgo : GrOk g) (h : GAt w G L g) (k a b c : Int) (hnet : g.net.length ≤ 1000000) :
    Calls Tryz.prog 7 #[.pointer (some ⟨G, 0, none⟩), itV k a b c] w (RetE (g.does k a b c) G L w) := by
  by_cases ht : g.there k a = 0
  rotate_left 1
  · have e : g.does k a b c = (g, g.there k a) := if_pos ht
    rw [e]
    exact do_not h k a b c ht
  have hk := GrOk.there_kind ht
  have mem : ∀ (hk : k = 0 ∨ k = 1 ∨ k = 2 ∨ k = 6), ∃ (i : Nat) (q : ML) (p : Mb × Vt), a = (i : Int) + 1 ∧ L.mem[i]? = some q ∧ g.ms[i]? = some p := fun hk => by
    obtain ⟨i, e, hi⟩ := there_in ht hk
    obtain ⟨q, hq⟩ := h.slots hi
    exact ⟨i, q, _, e, hq, List.getElem?_eq_getElem hi⟩
  have msg : ∀ (hk : k = 3 ∨ k = 4 ∨ k = 5 ∨ k = 7), ∃ (j : Nat) (x : Ms), a = (j : Int) ∧ g.net[j]? = some x ∧ j < g.net.length := fun hk => by
    obtain ⟨h1, h2⟩ := GrOk.there_msg ht hk
    exact ⟨a.toNat, _, by omega, List.getElem?_eq_getElem h2, h2⟩
  have kc : k = 0 ∨ k = 1 ∨ k = 2 ∨ k = 3 ∨ k = 4 ∨ k = 5 ∨ k = 6 ∨ k = 7 := by omega
  unfold Gr.does
  rw [if_neg (by simp [ht])]
  rcases kc with rfl | rfl | rfl | rfl | rfl | rfl | rfl | rfl
  · obtain ⟨i, q, p, rfl, hq, hp⟩ := mem (by omega)
    rw [if_pos rfl, at_idx hp]
    exact do_timeout hgo h i hq hp b c hnet ht
  · obtain ⟨i, q, p, rfl, hq, hp⟩ := mem (by omega)
    rw [if_neg (by decide), if_pos rfl, at_idx hp]
    exact do_beat hgo h i hq hp b c hnet ht
  · obtain ⟨i, q, p, rfl, hq, hp⟩ := mem (by omega)
    rw [if_neg (by decide), if_neg (by decide), if_pos rfl]
    exact do_propose hgo h i hq hp b c hnet ht
  · obtain ⟨j, x, rfl, hx, hj⟩ := msg (by omega)
    rw [if_neg (by decide), if_neg (by decide), if_neg (by decide), if_pos rfl, Int.toNat_natCast, msg_idx hx]
    exact do_deliver hgo h j hx b c hnet ht
  · obtain ⟨j, x, rfl, hx, hj⟩ := msg (by omega)
    rw [if_neg (by decide), if_neg (by decide), if_neg (by decide), if_neg (by decide), if_pos rfl, Int.toNat_natCast]
    exact do_lose h j hj b c hnet ht
  · obtain ⟨j, x, rfl, hx, hj⟩ := msg (by omega)
    rw [if_neg (by decide), if_neg (by decide), if_neg (by decide), if_neg (by decide), if_neg (by decide), if_pos rfl, Int.toNat_natCast, msg_idx hx]
    exact do_double h j hx b c hnet ht
  · obtain ⟨i, q, p, rfl, hq, hp⟩ := mem (by omega)
    rw [if_neg (by decide), if_neg (by decide), if_neg (by decide), if_neg (by decide), if_neg (by decide), if_neg (by decide), if_pos rfl]
    exact do_crash hgo h i hp b c ht
  · obtain ⟨j, x, rfl, hx, hj⟩ := msg (by omega)
    rw [if_neg (by decide), if_neg (by decide), if_neg (by decide), if_neg (by decide), if_neg (by decide), if_neg (by decide), if_neg (by decide), Int.toNat_natCast, msg_idx hx]
    exact do_torn hgo h j hx b c hnet ht
end Go.Proofs.YthjdbmfobmnnlaaGreat
