/-
  A message comes to who crashes.
-/
import Derived.Test.YtnljdkglncmfaaaGreatGrF
namespace Go.Proofs.YtnljdkglncmfaaaGreat
open Go.RowKit
set_option linter.unusedVariables false
set_option maxRecDepth 100000 in
set_option maxHeartbeats 6400000 in
theorem do_torn {w : World} {G : Nat} {L : GL} {g : Gr} (hgo : GrOk g) (h : GAt w G L g) (k : Nat) {x : Ms} (hx : g.net[k]? = some x) (b c : Int) (hnet : g.net.length ≤ 1000000) (ht : g.there 7 (k : Int) = 0) :
    Calls Tryz.prog 12 #[.pointer (some ⟨G, 0, none⟩), itV 7 (k : Int) b c] w (RetE ((g.take k).torn x b, 0) G L w) := by
  obtain ⟨hk, hkx⟩ := List.getElem?_eq_some_iff.1 hx
  have hmo : MsOk g.ms.length x := hgo.net x (by rw [← hkx]; exact List.getElem_mem hk)
  obtain ⟨s, hs⟩ : ∃ s, L.sl[k]? = some s := ⟨_, List.getElem?_eq_getElem (by rw [h.net.len]; exact hk)⟩
  obtain ⟨i, hxi⟩ : ∃ i : Nat, x.dst = (i : Int) + 1 := ⟨(x.dst - 1).toNat, by have := hmo.dst; omega⟩
  have hi : i < g.ms.length := by have := hmo.dst; omega
  obtain ⟨p, hp⟩ : ∃ p, g.ms[i]? = some p := ⟨_, List.getElem?_eq_getElem hi⟩
  obtain ⟨q, hq⟩ := h.slots hi
  have hpo := hgo.pair i p hp
  have hpt : (g.take k).ms[i]? = some p := hp
  have hsep := h.sep s (List.mem_of_getElem? hs)
  have hltG := h.gltAll
  have hal := below1 w (.cells #[.int .i64 7, .int .i64 (k : Int), .int .i64 b, .int .i64 c] 31)
  have gF := blk_new w (.cells #[.int .i64 7, .int .i64 (k : Int), .int .i64 b, .int .i64 c] 31)
  have h0 := h.below hal
  have HTH := Lib.hid (there_any h0 7 (k : Int) b c)
  rw [ht] at HTH
  obtain ⟨c0, c1, c2, c3, f1, hlt⟩ := box4 gF
  have HTK : Hid (∀ W, Below w.heap.size w W → Calls Tryz.prog 33 #[.pointer (some ⟨G, 0, none⟩), .int .i64 (k : Int)] W (RetTake g k x s G L W)) := fun W hb => take_any (h.below hb) k hx hs hnet
  have HHE : Hid (∀ W, MAt W q.b q.a p.1 → W.ownsRow 0 42 7 (.slice s.1 x.ents.length s.2) x.ents.length (ensV x.ents) → Calls Tryz.prog 34 #[.pointer (some ⟨q.b, 0, none⟩), x.val s.1 s.2] W (RetR (p.1.hear x).1 (p.1.hear x).2 q.b q.a W)) := fun W hM ho => hear_any hM hpo.mb x s.1 s.2 (wf64 (by have := hmo.kind; omega) (by have := hmo.kind; omega)) (wf64 (by have := hmo.index; omega) (by have := hmo.index; omega)) fun _ => ⟨LogIn.of_own ho, by have := hmo.len; omega, fun _ y hy => hsep y hy q (List.mem_of_getElem? hq)⟩
  have hin := (hpo.inGr.hear hmo).1
  have hn16 := hgo.n16
  have HSV : Hid (∀ W L1, GAt W G L1 ⟨g.ms.set i ((p.1.hear x).1, p.2), g.net.eraseIdx k⟩ → Calls Tryz.prog 35 #[.pointer (some ⟨G, 0, none⟩), .int .i64 ((i : Int) + 1)] W fun e w' => ∃ se L', e = .returned (.int .i64 se) ∧ GAt w' G L' ⟨g.ms.set i ((p.1.hear x).1, saved (p.1.hear x).1 p.2), g.net.eraseIdx k⟩ ∧ GStep W G L1 w' L') := fun W L1 h1 => by
    obtain ⟨q1, hq1⟩ := h1.slots (i := i) (by simp only [List.length_set]; exact hi)
    have := gsave_any h1 i (p := ((p.1.hear x).1, p.2)) hq1 (by simp [hi]) (by simp only [List.length_set]; exact hn16) hin.mb hin.wf hpo.vt hpo.le
    simp only [List.set_set] at this
    refine this.mono ?_
    rintro e w' ⟨L', rfl, h2, S2⟩
    exact ⟨_, L', rfl, h2, S2⟩
  have hcr := (hpo.crash hi hn16 hin (rises_hear hpo.mb x).term b)
  have HCR : Hid (∀ W L1, GAt W G L1 ⟨g.ms.set i ((p.1.hear x).1, saved (p.1.hear x).1 p.2), g.net.eraseIdx k⟩ → Calls Tryz.prog 36 #[.pointer (some ⟨G, 0, none⟩), .int .i64 ((i : Int) + 1), .int .i64 b] W (RetG ⟨g.ms.set i (fresh ((i : Int) + 1) g.ms.length (crashV (saved (p.1.hear x).1 p.2) b), crashV (saved (p.1.hear x).1 p.2) b), g.net.eraseIdx k⟩ G L1 (.tuple #[]) W)) := fun W L1 h1 => by
    have := gcrash_any h1 i (p := ((p.1.hear x).1, saved (p.1.hear x).1 p.2)) (by simp [hi]) (by simp only [List.length_set]; exact hn16) (saveV_ok hpo.vt _ _ _ _ _) (saveV_le hpo.le) b (by simp only [List.length_set]; exact hcr.1)
    simpa only [List.set_set, List.length_set] using this
  have HR : Hid ((g.take k).torn x b = ⟨g.ms.set i (fresh ((i : Int) + 1) g.ms.length (crashV (saved (p.1.hear x).1 p.2) b), crashV (saved (p.1.hear x).1 p.2) b), g.net.eraseIdx k⟩) := by
    unfold Gr.torn Gr.anew Gr.set
    rw [Hid, hxi, at_idx hpt, show ((i : Int) + 1 - 1).toNat = i by omega]
    rfl
  have HOF : Hid (∀ W L1, GAt W G L1 (g.take k) → Calls Tryz.prog 29 #[.pointer (some ⟨G, 0, none⟩), .int .i64 ((i : Int) + 1)] W fun e w' => e = .returned (.pointer (some ⟨L1.ma, i * 2, none⟩)) ∧ w' = W) := fun W L1 h1 => of_any h1 i hi hn16
  generalize fresh ((i : Int) + 1) g.ms.length (crashV (saved (p.1.hear x).1 p.2) b) = mf at *
  generalize crashV (saved (p.1.hear x).1 p.2) b = yf at *
  generalize saved (p.1.hear x).1 p.2 = sf at *
  clear hin hcr
  generalize p.1.hear x = r at *
  obtain ⟨m', said⟩ := r
  simp only at HHE HSV HCR
  generalize (g.take k).torn x b = gr at *
  obtain ⟨xk, xf, xd, xt, xi, xl, xc, xy, xe⟩ := x
  obtain ⟨sa, sc⟩ := s
  simp only at hxi
  subst hxi
  simp only at HHE
  clear h h0 ht hmo hpo hsep hx hkx
  go_enter Tryz.func12, Tryz.ntmps12
  go_upto_region 21 with (first
    | (go_at_call 27; refine HTH.out.mono ?_; rintro e w1 ⟨rfl, hb1⟩; have hw1 := hal.trans (hb1.mono hal.size); have g1 := blk_keep hb1 gF; clear c0 c1 c2 c3 f1 hlt; obtain ⟨c0, c1, c2, c3, f1, hlt⟩ := box4 g1)
    | (go_at_call 33; refine (HTK.out _ hw1).mono ?_; rintro e w2 ⟨L2, rfl, h2, S2, own2, hmem2⟩))
  have hal2 := below1 w2 (.cells #[.int .i64 xk, .int .i64 xf, .int .i64 ((i : Int) + 1), .int .i64 xt, .int .i64 xi, .int .i64 xl, .int .i64 xc, .bool xy, .slice sa xe.length sc] 78)
  have g3 := blk_new w2 (.cells #[.int .i64 xk, .int .i64 xf, .int .i64 ((i : Int) + 1), .int .i64 xt, .int .i64 xi, .int .i64 xl, .int .i64 xc, .bool xy, .slice sa xe.length sc] 78)
  have h3 := h2.below hal2
  have own3 := own_below own2 hal2
  have hq2 : L2.mem[i]? = some q := by rw [hmem2]; exact hq
  have hM3 := (h3.mem i q p hq2 hpt).1
  have hFn : w2.heap.size ∉ foot q.b q.a := fun hc => by have := (h2.mem i q p hq2 hpt).1.lt _ hc; omega
  have hFn2 : w2.heap.size ∉ gall G L2 := fun hc => by have := h2.gltAll _ hc; omega
  have hz1 := hw1.size
  have hIn2 : w.heap.size ∉ gall G L2 := fun hc => by
    rcases S2.sub _ hc with h4 | h4
    · have := hltG _ h4; omega
    · have := blk_lt g1; omega
  have hI : w.heap.size ∉ gall G L := fun hc => by have := hltG _ hc; omega
  have i3 := blk_keep hal2 (S2.chg.keep g1 hI)
  obtain ⟨r0, _, _, _, rlt⟩ := h3.ptrs hq2
  have S3 := ((GStep.of_below hw1).trans S2).below hal2
  clear c0 c1 c2 c3 f1 hlt
  have hzz := blk_lt (S2.chg.keep g1 hI)
  generalize w2.alloc (.cells #[.int .i64 xk, .int .i64 xf, .int .i64 ((i : Int) + 1), .int .i64 xt, .int .i64 xi, .int .i64 xl, .int .i64 xc, .bool xy, .slice sa xe.length sc] 78) = w3 at *
  generalize w2.heap.size = F6 at *
  obtain ⟨y0, y1, y2, y3, y4, y5, y6, y7, y8⟩ := box9 g3
  have ylt := blk_lt g3
  have HO3 := Lib.hid (HOF.out _ _ h3.drew)
  have HE3 := Lib.hid (HHE.out _ hM3.drew (own_drawn own3))
  have HH3 := Lib.hid h3.drew
  go_cut [109] (fun cc wx => ∃ L4, GAt wx G L4 ⟨g.ms.set i (m', p.2), g.net.eraseIdx k⟩ ∧ GStep w G L wx L4 ∧ wx.heap[F6]? = some (.cells #[.int .i64 xk, .int .i64 xf, .int .i64 ((i : Int) + 1), .int .i64 xt, .int .i64 xi, .int .i64 xl, .int .i64 xc, .bool xy, .slice sa xe.length sc] 78) ∧ wx.heap[w.heap.size]? = some (.cells #[.int .i64 7, .int .i64 (k : Int), .int .i64 b, .int .i64 c] 31) ∧ F6 ∉ gall G L4 ∧ w.heap.size ∉ gall G L4)
  case first =>
    go_region_law (first
      | (go_simp; go_at_call 29; refine HO3.out.mono ?_; rintro e wx ⟨rfl, hwx⟩; subst hwx; (try go_simp))
      | (go_simp; go_at_call 34; refine HE3.out.mono ?_; rintro e w4 ⟨a4, B4, A4, cc4, sl4, rfl, H4, T4, hB4, hF4, hms4⟩; have g4 := T4.keep (blk_drawn g3) hFn; obtain ⟨z0, z1, z2, z3, z4, z5, z6, z7, z8⟩ := box9 g4; have zlt := blk_lt g4; (try go_simp)))
    all_goals (go_wp2_with fail; go_meet)
    all_goals (
      obtain ⟨h5, S5⟩ := HH3.out.step hq2 hpt H4 T4
      have hout : ∀ {y : Nat}, y < w3.drew.heap.size → y ∉ gall G L2 → y ∉ gall G (L2.put i { q with a := a4 }) := fun hy hn => S5.far hy hn
      exact ⟨_, h5, (S3.below (Below.refl _ _).drew).trans S5, g4, S5.chg.keep (blk_drawn i3) hIn2, hout (blk_lt g3) hFn2, hout (blk_lt i3) hIn2⟩)
  case rest =>
    obtain ⟨L4, h4, S4, g4, i4, n4, m4⟩ := hcut
    clear y0 y1 y2 y3 y4 y5 y6 y7 y8 ylt r0 rlt
    obtain ⟨z0, z1, z2, z3, z4, z5, z6, z7, z8⟩ := box9 g4
    have zlt := blk_lt g4
    obtain ⟨i0, i1, i2, i3', if1, ilt⟩ := box4 i4
    have HS4 := Lib.hid (HSV.out _ _ h4)
    go_wp2_with (first
      | (go_at_call 35; refine HS4.out.mono ?_; rintro e w5 ⟨se, L5, rfl, h5, S5⟩; have g5 := S5.chg.keep g4 n4; have i5 := S5.chg.keep i4 m4; have m5 := S5.far (blk_lt i4) m4; have hC6 : Chg [w.heap.size] w5 (w5.setCell ⟨w.heap.size, 1, none⟩ (.int .i64 ((i : Int) + 1))) := ((Chg.refl _ _).setCell (.inl (by simp)) _ _); have h6 := h5.chgOut hC6 (fun y hy hc => by rw [List.mem_singleton] at hc; subst hc; exact m5 hy); have S6 : GStep w G L (w5.setCell ⟨w.heap.size, 1, none⟩ (.int .i64 ((i : Int) + 1))) L5 := ⟨((S4.trans S5).chg).setCell (.inr (Nat.le_refl _)) _ _, (S4.trans S5).sub⟩; have HC6 := Lib.hid (HCR.out _ _ h6); clear z0 z1 z2 z3 z4 z5 z6 z7 z8 zlt i0 i1 i2 i3' if1 ilt; obtain ⟨z0, z1, z2, z3, z4, z5, z6, z7, z8⟩ := box9 g5; have zlt := blk_lt g5; obtain ⟨i0, i1, i2, i3', if1, ilt⟩ := box4 i5)
      | (go_at_call 36; refine HC6.out.mono ?_; rintro e w7 ⟨L7, rfl, h7, S7⟩))
    go_ret
    rw [HR.out]
    exact ⟨rfl, L7, h7, S6.trans S7⟩
end Go.Proofs.YtnljdkglncmfaaaGreat
