/-
  A message comes.
-/
import Derived.Test.YtnljdkglncmfaaaGreatGrF
namespace Go.Proofs.YtnljdkglncmfaaaGreat
open Go.RowKit
set_option linter.unusedVariables false
set_option maxRecDepth 100000 in
set_option maxHeartbeats 6400000 in
theorem do_deliver {w : World} {G : Nat} {L : GL} {g : Gr} (hgo : GrOk g) (h : GAt w G L g) (k : Nat) {x : Ms} (hx : g.net[k]? = some x) (b c : Int) (hnet : g.net.length ≤ 1000000) (ht : g.there 3 (k : Int) = 0) :
    Calls Tryz.prog 12 #[.pointer (some ⟨G, 0, none⟩), itV 3 (k : Int) b c] w (RetE ((g.take k).hears x, 0) G L w) := by
  obtain ⟨hk, hkx⟩ := List.getElem?_eq_some_iff.1 hx
  have hmo : MsOk g.ms.length x := hgo.net x (by rw [← hkx]; exact List.getElem_mem hk)
  obtain ⟨s, hs⟩ : ∃ s, L.sl[k]? = some s := ⟨_, List.getElem?_eq_getElem (by rw [h.net.len]; exact hk)⟩
  obtain ⟨i, hxi⟩ : ∃ i : Nat, x.dst = (i : Int) + 1 := ⟨(x.dst - 1).toNat, by have := hmo.dst; omega⟩
  have hi : i < g.ms.length := by have := hmo.dst; omega
  obtain ⟨p, hp⟩ : ∃ p, g.ms[i]? = some p := ⟨_, List.getElem?_eq_getElem hi⟩
  obtain ⟨q, hq⟩ := h.slots hi
  have hpo := hgo.pair i p hp
  have hgt := hgo.take k
  have hpt : (g.take k).ms[i]? = some p := hp
  have hsep := h.sep s (List.mem_of_getElem? hs)
  have hal := below1 w (.cells #[.int .i64 3, .int .i64 (k : Int), .int .i64 b, .int .i64 c] 31)
  have gF := blk_new w (.cells #[.int .i64 3, .int .i64 (k : Int), .int .i64 b, .int .i64 c] 31)
  have h0 := h.below hal
  have HTH := Lib.hid (there_any h0 3 (k : Int) b c)
  rw [ht] at HTH
  obtain ⟨c0, c1, c2, c3, f1, hlt⟩ := box4 gF
  have HTK : Hid (∀ W, Below w.heap.size w W → Calls Tryz.prog 33 #[.pointer (some ⟨G, 0, none⟩), .int .i64 (k : Int)] W (RetTake g k x s G L W)) := fun W hb => take_any (h.below hb) k hx hs hnet
  have HHE : Hid (∀ W, MAt W q.b q.a p.1 → W.ownsRow 0 42 7 (.slice s.1 x.ents.length s.2) x.ents.length (ensV x.ents) → Calls Tryz.prog 34 #[.pointer (some ⟨q.b, 0, none⟩), x.val s.1 s.2] W (RetR (p.1.hear x).1 (p.1.hear x).2 q.b q.a W)) := fun W hM ho => hear_any hM hpo.mb x s.1 s.2 (wf64 (by have := hmo.kind; omega) (by have := hmo.kind; omega)) (wf64 (by have := hmo.index; omega) (by have := hmo.index; omega)) fun _ => ⟨LogIn.of_own ho, by have := hmo.len; omega, fun _ y hy => hsep y hy q (List.mem_of_getElem? hq)⟩
  have HACT : Hid (∀ W0 L1, GAt W0 G L1 (g.take k) → L1.mem = L.mem → ∀ w' a' B A cc sl, MAt w' q.b a' (p.1.hear x).1 → Step W0 q.b q.a w' a' → W0.heap.size ≤ B → (∀ x ∈ foot q.b a', x < B) → MsAt w' B A cc (p.1.hear x).2 sl → Calls Tryz.prog 28 #[.pointer (some ⟨G, 0, none⟩), .int .i64 ((i : Int) + 1), .slice A (p.1.hear x).2.length cc] w' fun e w2 => e = .returned (.tuple #[]) ∧ ∃ L2, GAt w2 G L2 ((g.take k).acts ((i : Int) + 1) (p.1.hear x).1 (p.1.hear x).2) ∧ GStep W0 G L1 w2 L2) := fun W0 L1 h1 hmem w' a' B A cc sl k1 k2 k3 k4 k5 => acts_said hgt h1 (by rw [hmem]; exact hq) hpt (hpo.inGr.hear hmo).1 k1 k2 k3 k4 k5 (hear_le hpo.mb x) (by have : (g.take k).net.length ≤ g.net.length := List.length_eraseIdx_le ..; omega)
  have HR : Hid ((g.take k).hears x = (g.take k).acts ((i : Int) + 1) (p.1.hear x).1 (p.1.hear x).2) := by
    unfold Gr.hears
    rw [Hid, hxi, at_idx hpt]
  have hn16 := hgo.n16
  have HOF : Hid (∀ W L1, GAt W G L1 (g.take k) → Calls Tryz.prog 29 #[.pointer (some ⟨G, 0, none⟩), .int .i64 ((i : Int) + 1)] W fun e w' => e = .returned (.pointer (some ⟨L1.ma, i * 2, none⟩)) ∧ w' = W) := fun W L1 h1 => of_any h1 i hi hn16
  generalize p.1.hear x = r at *
  obtain ⟨m', said⟩ := r
  simp only at HHE HACT HR
  generalize (g.take k).hears x = gr at *
  obtain ⟨xk, xf, xd, xt, xi, xl, xc, xy, xe⟩ := x
  obtain ⟨sa, sc⟩ := s
  simp only at hxi
  subst hxi
  simp only at HHE
  clear h h0 ht hmo hpo hsep hx hkx
  go_enter Tryz.func12, Tryz.ntmps12
  go_upto_region 17 with (first
    | (go_at_call 27; refine HTH.out.mono ?_; rintro e w1 ⟨rfl, hb1⟩; have hw1 := hal.trans (hb1.mono hal.size); have g1 := blk_keep hb1 gF; clear c0 c1 c2 c3 f1 hlt; obtain ⟨c0, c1, c2, c3, f1, hlt⟩ := box4 g1)
    | (go_at_call 33; refine (HTK.out _ hw1).mono ?_; rintro e w2 ⟨L2, rfl, h2, S2, own2, hmem2⟩))
  have hal2 := below1 w2 (.cells #[.int .i64 xk, .int .i64 xf, .int .i64 ((i : Int) + 1), .int .i64 xt, .int .i64 xi, .int .i64 xl, .int .i64 xc, .bool xy, .slice sa xe.length sc] 78)
  have g3 := blk_new w2 (.cells #[.int .i64 xk, .int .i64 xf, .int .i64 ((i : Int) + 1), .int .i64 xt, .int .i64 xi, .int .i64 xl, .int .i64 xc, .bool xy, .slice sa xe.length sc] 78)
  have h3 := h2.below hal2
  have own3 := own_below own2 hal2
  have hq2 : L2.mem[i]? = some q := by rw [hmem2]; exact hq
  have hM3 := (h3.mem i q p hq2 hpt).1
  have hFn : w2.heap.size ∉ foot q.b q.a := fun hc => by have := (h2.mem i q p hq2 hpt).1.lt _ hc; omega
  obtain ⟨r0, _, _, _, rlt⟩ := h3.ptrs hq2
  have S3 := ((GStep.of_below hw1).trans S2).below hal2
  generalize w2.alloc (.cells #[.int .i64 xk, .int .i64 xf, .int .i64 ((i : Int) + 1), .int .i64 xt, .int .i64 xi, .int .i64 xl, .int .i64 xc, .bool xy, .slice sa xe.length sc] 78) = w3 at *
  generalize w2.heap.size = F6 at *
  obtain ⟨y0, y1, y2, y3, y4, y5, y6, y7, y8⟩ := box9 g3
  have ylt := blk_lt g3
  have HO3 := Lib.hid (HOF.out _ _ h3.drew)
  have HE3 := Lib.hid (HHE.out _ hM3.drew (own_drawn own3))
  have HH3 := Lib.hid h3.drew
  go_region_law (first
    | (go_simp; go_at_call 29; refine HO3.out.mono ?_; rintro e wx ⟨rfl, hwx⟩; subst hwx; (try go_simp))
    | (go_simp; go_at_call 34; refine HE3.out.mono ?_; rintro e w4 ⟨a4, B4, A4, cc4, sl4, rfl, H4, T4, hB4, hF4, hms4⟩; have g4 := T4.keep (blk_drawn g3) hFn; obtain ⟨z0, z1, z2, z3, z4, z5, z6, z7, z8⟩ := box9 g4; have zlt := blk_lt g4; have HA4 := Lib.hid (HACT.out _ _ HH3.out hmem2 _ _ _ _ _ _ H4 T4 hB4 hF4 hms4); (try go_simp))
    | (go_simp; go_at_call 28; refine HA4.out.mono ?_; rintro e w5 ⟨rfl, L5, h5, S5⟩; (try go_simp)))
  all_goals go_wp2
  all_goals go_ret
  all_goals (
    rw [HR.out]
    exact ⟨rfl, L5, h5, (S3.below (Below.refl _ _).drew).trans S5⟩)
end Go.Proofs.YtnljdkglncmfaaaGreat
