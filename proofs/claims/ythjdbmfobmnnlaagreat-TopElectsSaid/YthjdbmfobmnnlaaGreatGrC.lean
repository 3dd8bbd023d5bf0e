/-
  A crash; a message is taken.
-/
import Derived.Test.YthjdbmfobmnnlaaGreatGrB
import Derived.Test.YthjdbmfobmnnlaaGreatBq
import Derived.Test.YthjdbmfobmnnlaaGreatBr
namespace Go.Proofs.YthjdbmfobmnnlaaGreat
open Go.RowKit
set_option linter.unusedVariables false
set_option maxRecDepth 100000 in
set_option maxHeartbeats 6400000 in
theorem gcrash_any {w : World} {G : Nat} {L : GL} {g : Gr} (h : GAt w G L g) (i : Nat) {p : Mb × Vt} (hp : g.ms[i]? = some p) (hn : g.ms.length ≤ 16) (hx : VtOk p.2) (hl : p.2.1.length ≤ 65536) (keep : Int)
    (hok : newOk ((i : Int) + 1) g.ms.length (crashV p.2 keep).2.2.1 (crashV p.2 keep).2.2.2.1 0 0 (crashV p.2 keep).2.2.2.2 = true) :
    Calls Tryz.prog 34 #[.pointer (some ⟨G, 0, none⟩), .int .i64 ((i : Int) + 1), .int .i64 keep] w (RetG ⟨g.ms.set i (fresh ((i : Int) + 1) g.ms.length (crashV p.2 keep), crashV p.2 keep), g.net⟩ G L (.tuple #[]) w) := by
  have hi : i < g.ms.length := (List.getElem?_eq_some_iff.1 hp).1
  obtain ⟨q, hq⟩ := h.slots hi
  have HOF := Lib.hid (of_any h i hi hn)
  obtain ⟨c0, c1, f0, f1, hlt⟩ := h.ptrs hq
  obtain ⟨hM, hV⟩ := h.mem i q p hq hp
  obtain ⟨csV, hcsV⟩ := hV.blkV
  have hVlt := blk_lt hcsV
  have HCR : Hid (Calls Tryz.prog 78 #[.pointer (some ⟨q.v, 0, none⟩), .int .i64 keep] w fun e w' => e = .returned (.tuple #[]) ∧ VtAt w' q.v (q.v + 1) (fun y => y ∈ q.r ∨ w.heap.size ≤ y) (crashV p.2 keep) ∧ Only q.v w w') := by
    obtain ⟨D, cd, A', c', g1, o1, o2, oP⟩ := hV
    exact crash_any q.v (q.v + 1) p.2 keep w (fun y hy => .inr hy) ⟨D, cd, A', c', g1, o1, o2, fun y hy => .inl (oP y hy)⟩ (by omega) (by omega) hx (by omega)
  have hk := crashV_ok hx keep
  have HAN : Hid (∀ W L1, GAt W G L1 ⟨g.ms.set i (p.1, crashV p.2 keep), g.net⟩ → Calls Tryz.prog 24 #[.pointer (some ⟨G, 0, none⟩), .int .i64 ((i : Int) + 1)] W (RetG ⟨(g.ms.set i (p.1, crashV p.2 keep)).set i (fresh ((i : Int) + 1) g.ms.length (crashV p.2 keep), crashV p.2 keep), g.net⟩ G L1 (.tuple #[]) W)) := fun W L1 h1 => by
    have hi1 : i < (g.ms.set i (p.1, crashV p.2 keep)).length := by rw [List.length_set]; exact hi
    obtain ⟨q1, hq1⟩ := h1.slots hi1
    have := anew_any h1 i (p := (p.1, crashV p.2 keep)) hq1 (by simp [hi]) (by simp only [List.length_set]; exact hn) hk (by simp only [List.length_set]; exact hok)
    simpa only [List.length_set] using this
  have HG := Lib.hid h
  generalize crashV p.2 keep = y at *
  clear h hM hV hx hl hk hok
  go_enter Tryz.func34, Tryz.ntmps34
  go_wp2_with (first
    | (go_at_call 27; refine HOF.out.mono ?_; rintro e wx ⟨rfl, hwx⟩; subst hwx)
    | (go_at_call 78; refine HCR.out.mono ?_; rintro e w2 ⟨rfl, hv2, hO2⟩; obtain ⟨L2, h2, S2, _⟩ := HG.out.disk hq hp hO2 hv2; have HA2 := Lib.hid (HAN.out _ _ h2))
    | (go_at_call 24; refine HA2.out.mono ?_; rintro e w3 ⟨L3, rfl, h3, S3⟩))
  refine bodyPost_end (results_none rfl _ _ _) rfl ?_
  rw [List.set_set] at h3
  exact ⟨L3, rfl, h3, S2.trans S3⟩
/-! ### A message is taken -/
theorem msV_take (k : Nat) : ∀ (ms : List Ms) (sl : List (Option Addr × Nat)), sl.length = ms.length → (msV ms sl).take (k * 9) = msV (ms.take k) (sl.take k) := by
  induction k with
  | zero => intro ms sl h; simp [msV]
  | succ k ih =>
    intro ms sl h
    cases ms with
    | nil => simp [msV]
    | cons m ms =>
      cases sl with
      | nil => simp at h
      | cons s sl =>
        simp only [List.length_cons, Nat.add_right_cancel_iff] at h
        simp only [List.take_succ_cons, msV, List.headD_cons, List.tail_cons]
        have hc : (m.cells s.1 s.2).length = 9 := rfl
        rw [List.take_append, hc, List.take_of_length_le (by rw [hc]; omega), show (k + 1) * 9 - 9 = k * 9 by omega, ih ms sl h]
theorem msV_drop (k : Nat) : ∀ (ms : List Ms) (sl : List (Option Addr × Nat)), sl.length = ms.length → (msV ms sl).drop (k * 9) = msV (ms.drop k) (sl.drop k) := by
  induction k with
  | zero => intro ms sl h; simp
  | succ k ih =>
    intro ms sl h
    cases ms with
    | nil => simp [msV]
    | cons m ms =>
      cases sl with
      | nil => simp at h
      | cons s sl =>
        simp only [List.length_cons, Nat.add_right_cancel_iff] at h
        simp only [List.drop_succ_cons, msV, List.headD_cons, List.tail_cons]
        have hc : (m.cells s.1 s.2).length = 9 := rfl
        rw [List.drop_append, hc, List.drop_of_length_le (by rw [hc]; omega), List.nil_append, show (k + 1) * 9 - 9 = k * 9 by omega, ih ms sl h]
theorem MsAt.ent {w : World} {base : Nat} {A : Option Addr} {c : Nat} {ms : List Ms} {sl : List (Option Addr × Nat)} (h : MsAt w base A c ms sl) {k : Nat} {x : Ms} {s : Option Addr × Nat} (hk : ms[k]? = some x) (hs : sl[k]? = some s) : w.ownsRow base 82 7 (.slice s.1 x.ents.length s.2) x.ents.length (ensV x.ents) := by
  obtain ⟨hk1, hk2⟩ := List.getElem?_eq_some_iff.1 hk
  have := h.ents k hk1
  rw [List.getD_eq_getElem?_getD, hs, hk2] at this
  exact this
theorem MsAt.mk2 {w : World} {base : Nat} {A : Option Addr} {c : Nat} {ms : List Ms} {sl : List (Option Addr × Nat)} (h1 : w.ownsRow base 70 9 (.slice A ms.length c) ms.length (msV ms sl)) (h2 : sl.length = ms.length) (h3 : ∀ (k : Nat) (x : Ms) (s : Option Addr × Nat), ms[k]? = some x → sl[k]? = some s → w.ownsRow base 82 7 (.slice s.1 x.ents.length s.2) x.ents.length (ensV x.ents)) : MsAt w base A c ms sl := by
  refine ⟨h1, h2, fun k hk => ?_⟩
  have hk2 : k < sl.length := by rw [h2]; exact hk
  rw [List.getD_eq_getElem?_getD, List.getElem?_eq_getElem hk2]
  exact h3 k _ _ (List.getElem?_eq_getElem hk) (List.getElem?_eq_getElem hk2)
theorem MsAt.erase {w w2 : World} {A A2 : Option Addr} {c c2 : Nat} {ms : List Ms} {sl : List (Option Addr × Nat)} (h : MsAt w 0 A c ms sl) (k : Nat) (hk : k < ms.length) (hc : Below w.heap.size w w2)
    (hown : w2.ownsRow 0 70 9 (.slice A2 (ms.length - 1) c2) (ms.length - 1) ((msV ms sl).take (k * 9) ++ (msV ms sl).drop ((k + 1) * 9))) : MsAt w2 0 A2 c2 (ms.eraseIdx k) (sl.eraseIdx k) := by
  have hl : (ms.eraseIdx k).length = ms.length - 1 := by rw [List.length_eraseIdx, if_pos hk]
  have e : (msV ms sl).take (k * 9) ++ (msV ms sl).drop ((k + 1) * 9) = msV (ms.eraseIdx k) (sl.eraseIdx k) := by
    rw [msV_take k ms sl h.len, msV_drop (k + 1) ms sl h.len, List.eraseIdx_eq_take_drop_succ, List.eraseIdx_eq_take_drop_succ, msV_append (by simp [h.len])]
  rw [e] at hown
  refine MsAt.mk2 (by rw [hl]; exact hown) (by rw [List.length_eraseIdx, List.length_eraseIdx, h.len]) fun j x s hx hs => ?_
  rw [List.getElem?_eraseIdx] at hx hs
  split at hx
  · rename_i hlt
    rw [if_pos hlt] at hs
    exact own_below (h.ent hx hs) hc
  · rename_i hlt
    rw [if_neg hlt] at hs
    exact own_below (h.ent hx hs) hc
/-- One message's cells, all. -/
theorem msg_nine {w : World} {A : Option Addr} {ms : List Ms} {sl : List (Option Addr × Nat)} (h : RowAt w A (msV ms sl)) {k : Nat} {x : Ms} {s : Option Addr × Nat} (hk : ms[k]? = some x) (hs : sl[k]? = some s) :
    ∃ b off, A = some ⟨b, off, none⟩ ∧ b < w.heap.size ∧ w.cell? ⟨b, off + k * 9, none⟩ = some (.int .i64 x.kind) ∧ w.cell? ⟨b, off + k * 9 + 1, none⟩ = some (.int .i64 x.frm) ∧ w.cell? ⟨b, off + k * 9 + 2, none⟩ = some (.int .i64 x.dst) ∧
      w.cell? ⟨b, off + k * 9 + 3, none⟩ = some (.int .i64 x.term) ∧ w.cell? ⟨b, off + k * 9 + 4, none⟩ = some (.int .i64 x.index) ∧ w.cell? ⟨b, off + k * 9 + 5, none⟩ = some (.int .i64 x.lterm) ∧ w.cell? ⟨b, off + k * 9 + 6, none⟩ = some (.int .i64 x.commit) ∧ w.cell? ⟨b, off + k * 9 + 7, none⟩ = some (.bool x.yes) ∧ w.cell? ⟨b, off + k * 9 + 8, none⟩ = some (.slice s.1 x.ents.length s.2) := by
  obtain ⟨hk1, hk2⟩ := List.getElem?_eq_some_iff.1 hk
  have hj : ∀ j, j < 9 → (msV ms sl)[k * 9 + j]? = (x.cells s.1 s.2)[j]? := fun j hj => by
    have := msV_at (sl := sl) hk1 hj
    rw [List.getD_eq_getElem?_getD, hs, hk2] at this
    exact this
  rcases h with h | ⟨b, off, ha, hlt, hc⟩
  · have := congrArg List.length h
    rw [msV_length] at this
    simp at this
    omega
  · refine ⟨b, off, ha, hlt, ?_⟩
    have e : ∀ j, off + k * 9 + j = off + (k * 9 + j) := fun j => by omega
    rw [e 1, e 2, e 3, e 4, e 5, e 6, e 7, e 8]
    exact ⟨hc _ _ (hj 0 (by omega)), hc _ _ (hj 1 (by omega)), hc _ _ (hj 2 (by omega)), hc _ _ (hj 3 (by omega)), hc _ _ (hj 4 (by omega)), hc _ _ (hj 5 (by omega)), hc _ _ (hj 6 (by omega)), hc _ _ (hj 7 (by omega)), hc _ _ (hj 8 (by omega))⟩
theorem own_some {w : World} {base : Nat} {e : TypeId} {size : Nat} {A : Option Addr} {n cap : Nat} {xs : List Value} (h : w.ownsRow base e size (.slice A n cap) n xs) (hn : 0 < n) : ∃ b, A = some ⟨b, 0, none⟩ := by
  rcases h.2 with ⟨_, h0⟩ | ⟨g, c, cur, hv, _⟩
  · omega
  · injection hv with h1
    exact ⟨g, h1⟩
/-- A message was taken out. -/
def RetTake (g : Gr) (k : Nat) (x : Ms) (s : Option Addr × Nat) (G : Nat) (L : GL) (w : World) (e : Ending) (w' : World) : Prop :=
  ∃ L', e = .returned (x.val s.1 s.2) ∧ GAt w' G L' (g.take k) ∧ GStep w G L w' L' ∧ w'.ownsRow 0 82 7 (.slice s.1 x.ents.length s.2) x.ents.length (ensV x.ents) ∧ L'.mem = L.mem
set_option maxRecDepth 100000 in
set_option maxHeartbeats 6400000 in
theorem take_any {w : World} {G : Nat} {L : GL} {g : Gr} (h : GAt w G L g) (k : Nat) {x : Ms} {s : Option Addr × Nat} (hx : g.net[k]? = some x) (hs : L.sl[k]? = some s) (hnet : g.net.length ≤ 1000000) :
    Calls Tryz.prog 31 #[.pointer (some ⟨G, 0, none⟩), .int .i64 (k : Int)] w (RetTake g k x s G L w) := by
  obtain ⟨hk, _⟩ := List.getElem?_eq_some_iff.1 hx
  obtain ⟨b, off, hna, hblt, x0, x1, x2, x3, x4, x5, x6, x7, x8⟩ := msg_nine (RowAt.of_own h.net.own) hx hs
  obtain ⟨c0, c1, f0, f1, hlt⟩ := h.cells
  have HE := Lib.hid (h.net.ent hx hs)
  have HCL : Hid (∀ W, Below w.heap.size w W → Calls Tryz.prog 70 #[.slice L.na g.net.length L.nc] W (RetRow 70 9 g.net.length (msV g.net L.sl) W)) := fun W hb => cloneM_any L.na L.nc g.net.length (msV g.net L.sl) W ((RowAt.of_own h.net.own).below hb) (fun e => by rw [e] at hna; cases hna) (msV_length _ _) (msV_one _ _) hnet
  have HDE : Hid (∀ W b2 c2, W.ownsRow b2 70 9 (.slice (some ⟨b2, 0, none⟩) g.net.length c2) g.net.length (msV g.net L.sl) → Calls Tryz.prog 69 #[.slice (some ⟨b2, 0, none⟩) g.net.length c2, .int .i64 (k : Int), .int .i64 ((k : Int) + 1)] W (RetDel b2 c2 (g.net.length - 1) ((msV g.net L.sl).take (k * 9) ++ (msV g.net L.sl).drop ((k + 1) * 9)) W)) := fun W b2 c2 ho => deleteM_any b2 c2 g.net.length k _ W ho (msV_one _ _) hk hnet
  have HG := Lib.hid h
  have hk0 : (0 : Int) ≤ (k : Int) := by omega
  have hk1 : (k : Int) < (g.net.length : Int) := by omega
  have hwr : IntKind.i64.wrap ((k : Int) + 1) = (k : Int) + 1 := wrap_id (by omega) (by omega)
  have hnaL := h.net.own
  rw [hna] at c1 HCL hnaL
  obtain ⟨xk, xf, xd, xt, xi, xl, xc, xy, xe⟩ := x
  obtain ⟨sa, sc⟩ := s
  simp only at x0 x1 x2 x3 x4 x5 x6 x7 x8
  clear h
  go_enter Tryz.func31, Tryz.ntmps31
  have hal := below2 w (.cells #[.int .i64 0, .int .i64 0, .int .i64 0, .int .i64 0, .int .i64 0, .int .i64 0, .int .i64 0, .bool false, .slice none 0 0] 70) (.cells #[.int .i64 xk, .int .i64 xf, .int .i64 xd, .int .i64 xt, .int .i64 xi, .int .i64 xl, .int .i64 xc, .bool xy, .slice sa xe.length sc] 70)
  have e0 := alloc2_fst w (.cells #[.int .i64 0, .int .i64 0, .int .i64 0, .int .i64 0, .int .i64 0, .int .i64 0, .int .i64 0, .bool false, .slice none 0 0] 70) (.cells #[.int .i64 xk, .int .i64 xf, .int .i64 xd, .int .i64 xt, .int .i64 xi, .int .i64 xl, .int .i64 xc, .bool xy, .slice sa xe.length sc] 70)
  have e1 := alloc2_snd w (.cells #[.int .i64 0, .int .i64 0, .int .i64 0, .int .i64 0, .int .i64 0, .int .i64 0, .int .i64 0, .bool false, .slice none 0 0] 70) (.cells #[.int .i64 xk, .int .i64 xf, .int .i64 xd, .int .i64 xt, .int .i64 xi, .int .i64 xl, .int .i64 xc, .bool xy, .slice sa xe.length sc] 70)
  go_upto_region 2 with fail
  clear x0 x1 x2 x3 x4 x5 x6 x7 x8
  generalize (w.alloc (.cells #[.int .i64 0, .int .i64 0, .int .i64 0, .int .i64 0, .int .i64 0, .int .i64 0, .int .i64 0, .bool false, .slice none 0 0] 70)).alloc (.cells #[.int .i64 xk, .int .i64 xf, .int .i64 xd, .int .i64 xt, .int .i64 xi, .int .i64 xl, .int .i64 xc, .bool xy, .slice sa xe.length sc] 70) = W0 at *
  have gW := blk_keep hal HG.out.blk
  have hF0 : w.heap.size ≠ G := by omega
  have hF1 : w.heap.size + 1 ≠ G := by omega
  clear c0 c1 f0 f1 hlt
  obtain ⟨c0, c1, f0, f1, hlt⟩ := box2 gW
  rw [hna] at c1
  go_upto_region 3 with (first
    | (go_at_call 70; refine (HCL.out _ hal).mono ?_; rintro e w1 ⟨a1, c1', rfl, own1, hb1⟩; obtain ⟨b1, rfl⟩ := own_some own1 (by omega); have hb1lt := own_blk own1 b1 (by simp [blkOf]); have D1 := Lib.hid (HDE.out _ b1 c1' (own_rebase own1 (fun y hy => by simp [blkOf] at hy; omega))); have gW1 := blk_keep hb1 gW; have e01 := blk_keep hb1 e0; have e11 := blk_keep hb1 e1)
    | (go_at_call 69; refine D1.out.mono ?_; rintro e w2 ⟨rfl, own2, hC2⟩; have gW2 := hC2.keep gW1 (by simp; have := blk_lt gW; omega); have e02 := hC2.keep e01 (by simp; have := blk_lt e0; omega); have e12 := hC2.keep e11 (by simp; have := blk_lt e1; omega); clear c0 c1 f0 f1 hlt; obtain ⟨c0, c1, f0, f1, hlt⟩ := box2 gW2))
  have hz1 := hb1.size
  have hzl := blk_lt e1
  have hzl0 := blk_lt e0
  have hz2 := hC2.size
  have gW3 := blk_set (i := 1) gW2 (.slice (some ⟨b1, 0, none⟩) (g.net.length - 1) c1')
  have e03 := blk_far (i := 1) (G := G) e02 hF0 (.slice (some ⟨b1, 0, none⟩) (g.net.length - 1) c1')
  have e13 := blk_far (i := 1) (G := G) e12 hF1 (.slice (some ⟨b1, 0, none⟩) (g.net.length - 1) c1')
  have hb2 : Below w.heap.size w w2 := (hal.trans (hb1.mono hal.size)).trans (hC2.to_below (fun y hy => by simp at hy; omega) (by omega))
  have hms := HG.out.net.erase k hk hb2 (own_base own2 (Nat.zero_le _))
  obtain ⟨hG4, hC4, hS4⟩ := HG.out.netTo (B0 := w.heap.size + 2) (na := some ⟨b1, 0, none⟩) (nc := c1') (l := g.net.eraseIdx k) (sl := L.sl.eraseIdx k) (Chg.of_below hb2) hms (fun s hs y hy r hr => HG.out.sep s (List.mem_of_mem_eraseIdx hs) y hy r hr) (fun y hy => by simp [blkOf] at hy; right; omega) (fun s hs y hy => .inl (gall_s (List.mem_of_mem_eraseIdx hs) hy))
  have hle : (g.net.eraseIdx k).length = g.net.length - 1 := by rw [List.length_eraseIdx, if_pos hk]
  rw [hle] at hG4 hC4
  have HE4 := own_setFar (own_below HE.out hb2) (fun y hy => by
    obtain ⟨cs, hcs⟩ := own_kind HE.out hy
    exact ne_kind hcs HG.out.blk (by decide)) 1 (.slice (some ⟨b1, 0, none⟩) (g.net.length - 1) c1')
  clear c0 c1 f0 f1 hlt
  generalize w2.setCell ⟨G, 1, none⟩ (.slice (some ⟨b1, 0, none⟩) (g.net.length - 1) c1') = W4 at *
  obtain ⟨d0, d1, d2, d3, d4, d5, d6, d7, d8⟩ := box9 e13
  obtain ⟨z0, z1, z2, z3, z4, z5, z6, z7, z8⟩ := box9 e03
  obtain ⟨t0, t1, t2, t3, t4, t5, t6, t7, t8, _⟩ := fro9 e03
  have zlt := blk_lt e03
  have dlt := blk_lt e13
  go_wp2
  obtain ⟨k0, k1, k2, k3, k4, k5, k6, k7, k8⟩ := box9 (set9_blk e03 (.int .i64 xk) (.int .i64 xf) (.int .i64 xd) (.int .i64 xt) (.int .i64 xi) (.int .i64 xl) (.int .i64 xc) (.bool xy) (.slice sa xe.length sc))
  refine bodyPost_ret (v := (Ms.mk xk xf xd xt xi xl xc xy xe).val sa sc) (by simp [results, Tryz.results31, go_sem, k0, k1, k2, k3, k4, k5, k6, k7, k8]) rfl ?_
  have hCF : Chg [w.heap.size] W4 (set9 W4 w.heap.size (.int .i64 xk) (.int .i64 xf) (.int .i64 xd) (.int .i64 xt) (.int .i64 xi) (.int .i64 xl) (.int .i64 xc) (.bool xy) (.slice sa xe.length sc)) := (((((((((Chg.refl _ _).setCell (.inl (by simp)) 0 _).setCell (.inl (by simp)) 1 _).setCell (.inl (by simp)) 2 _).setCell (.inl (by simp)) 3 _).setCell (.inl (by simp)) 4 _).setCell (.inl (by simp)) 5 _).setCell (.inl (by simp)) 6 _).setCell (.inl (by simp)) 7 _).setCell (.inl (by simp)) 8 _
  have hltA := HG.out.gltAll
  refine ⟨_, rfl, hG4.chgOut hCF (fun y hy hc => ?_), ⟨hC4.trans hCF fun y hy => by simp at hy; exact .inr (by omega), fun y hy => ?_⟩, own_chg HE4 hCF fun y hy hc => ?_, rfl⟩
  · simp at hc
    subst hc
    rcases hS4 _ hy with h1 | h1
    · have := hltA _ h1; omega
    · omega
  · rcases hS4 y hy with h1 | h1
    · exact .inl h1
    · exact .inr (by omega)
  · simp at hc
    subst hc
    obtain ⟨cs, hcs⟩ := own_kind HE.out hy
    have := blk_lt hcs
    omega
end Go.Proofs.YthjdbmfobmnnlaaGreat
