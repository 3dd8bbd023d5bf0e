/-
  A member of a group, its disk, a member anew.
-/
import Derived.Test.YthjdbmfobmnnlaaGreatGrAt
import Derived.Test.YthjdbmfobmnnlaaGreatBr
import Derived.Test.YthjdbmfobmnnlaaGreatRaftS
namespace Go.Proofs.YthjdbmfobmnnlaaGreat
open Go.RowKit
set_option linter.unusedVariables false
/-- A group has done something. -/
def RetG (g' : Gr) (G : Nat) (L : GL) (v : Value) (w : World) (e : Ending) (w' : World) : Prop := ∃ L', e = .returned v ∧ GAt w' G L' g' ∧ GStep w G L w' L'
section
variable {w : World} {G : Nat} {L : GL} {g : Gr}
theorem GAt.cells (h : GAt w G L g) : w.cell? ⟨G, 0, none⟩ = some (.slice (some ⟨L.ma, 0, none⟩) g.ms.length L.mc) ∧ w.cell? ⟨G, 1, none⟩ = some (.slice L.na g.net.length L.nc) ∧ w.frozen? ⟨G, 0, none⟩ = false ∧ w.frozen? ⟨G, 1, none⟩ = false ∧ G < w.heap.size := by
  obtain ⟨a, b, c, d, e⟩ := box2 h.blk
  exact ⟨a, b, c, d, e⟩
theorem GAt.ptrs (h : GAt w G L g) {i : Nat} {q : ML} (hq : L.mem[i]? = some q) : w.cell? ⟨L.ma, i * 2, none⟩ = some (.pointer (some ⟨q.b, 0, none⟩)) ∧ w.cell? ⟨L.ma, i * 2 + 1, none⟩ = some (.pointer (some ⟨q.v, 0, none⟩)) ∧ w.frozen? ⟨L.ma, i * 2, none⟩ = false ∧ w.frozen? ⟨L.ma, i * 2 + 1, none⟩ = false ∧ L.ma < w.heap.size := by
  refine ⟨?_, ?_, blk_frozen h.row _, blk_frozen h.row _, blk_lt h.row⟩
  · rw [blk_cell h.row]
    have := (ptrV_at hq).1
    simpa using this
  · rw [blk_cell h.row]
    have := (ptrV_at hq).2
    simpa using this
theorem of_any (h : GAt w G L g) (i : Nat) (hi : i < g.ms.length) (hn : g.ms.length ≤ 16) : Calls Tryz.prog 27 #[.pointer (some ⟨G, 0, none⟩), .int .i64 ((i : Int) + 1)] w fun e w' => e = .returned (.pointer (some ⟨L.ma, i * 2, none⟩)) ∧ w' = w := by
  obtain ⟨c0, c1, f0, f1, hlt⟩ := h.cells
  have hwr : IntKind.i64.wrap (i : Int) = (i : Int) := wrap_id (by omega) (by omega)
  have hi0 : (0 : Int) ≤ (i : Int) := by omega
  have hi1 : (i : Int) < (g.ms.length : Int) := by omega
  clear h
  go_enter Tryz.func27, Tryz.ntmps27
  go_wp2
  go_ret
  exact ⟨rfl, rfl⟩
end
set_option maxRecDepth 100000 in
set_option maxHeartbeats 6400000 in
theorem gsave_any {w : World} {G : Nat} {L : GL} {g : Gr} (h : GAt w G L g) (i : Nat) {q : ML} {p : Mb × Vt} (hq : L.mem[i]? = some q) (hp : g.ms[i]? = some p) (hn : g.ms.length ≤ 16) (hm : MbOk p.1) (hwf : ∀ e ∈ p.1.log, EnWf e) (hx : VtOk p.2) (hl : p.2.1.length ≤ 65536) :
    Calls Tryz.prog 33 #[.pointer (some ⟨G, 0, none⟩), .int .i64 ((i : Int) + 1)] w (RetG ⟨g.ms.set i (p.1, saved p.1 p.2), g.net⟩ G L (.int .i64 (saves p.1 p.2)) w) := by
  have hi : i < g.ms.length := (List.getElem?_eq_some_iff.1 hp).1
  have HOF := Lib.hid (of_any h i hi hn)
  obtain ⟨c0, c1, f0, f1, hlt⟩ := h.ptrs hq
  obtain ⟨hM, hV⟩ := h.mem i q p hq hp
  have HBA : Hid (∀ W, MAt W q.b q.a p.1 → Calls Tryz.prog 77 #[.pointer (some ⟨q.b, 0, none⟩)] W fun e w' => e = .returned (ballotV p.1.term p.1.vote) ∧ Below W.heap.size W w') := fun W h => ballot_any h
  have HLO : Hid (∀ W, MAt W q.b q.a p.1 → Calls Tryz.prog 38 #[.pointer (some ⟨q.b, 0, none⟩)] W (RetLogM p.1.log W)) := fun W h => mlog_any h hm.len64
  obtain ⟨csV, hcsV⟩ := hV.blkV
  have hVlt := blk_lt hcsV
  have HSV : Hid (∀ W A c, Below w.heap.size w W → LogIn W A c p.1.log → Calls Tryz.prog 76 #[.pointer (some ⟨q.v, 0, none⟩), ballotV p.1.term p.1.vote, logV 0 0 A p.1.log.length c] W fun e w' => e = .returned (.int .i64 (saves p.1 p.2)) ∧ VtAt w' q.v (q.v + 1) (fun y => y ∈ q.r ∨ W.heap.size ≤ y) (saved p.1 p.2) ∧ Only q.v W w') := fun W A c hb hle => by
    obtain ⟨D, cd, A', c', g1, o1, o2, oP⟩ := hV
    have hV' : VtAt W q.v (q.v + 1) (fun y => y ∈ q.r ∨ W.heap.size ≤ y) p.2 := ⟨D, cd, A', c', blk_keep hb g1, own_below o1 hb, own_below o2 hb, fun y hy => .inl (oP y hy)⟩
    exact save_any q.v (q.v + 1) p.2 p.1.term p.1.vote 0 0 A c p.1.log W (fun y hy => .inr hy) hV' (by omega) (by have := hb.size; omega) hle hwf hx hl
  have hMAT := Lib.hid hM
  have hrow := h.row
  have hneV : L.ma ≠ q.v := ne_kind hrow hcsV (by decide)
  have HP0 : Hid ((ptrV L.mem).toArray[i * 2]? = some (.pointer (some ⟨q.b, 0, none⟩))) := by have := (ptrV_at hq).1; simpa [Hid] using this
  have HP1 : Hid ((ptrV L.mem).toArray[i * 2 + 1]? = some (.pointer (some ⟨q.v, 0, none⟩))) := by have := (ptrV_at hq).2; simpa [Hid] using this
  have HG := Lib.hid h
  have h64 := hm.len64
  clear h hV hM hm hwf hx hl
  go_enter Tryz.func33, Tryz.ntmps33
  go_upto_region 2 with (go_at_call 27; refine HOF.out.mono ?_; rintro e wx ⟨rfl, hwx⟩; subst hwx)
  have HB1 := Lib.hid (HBA.out _ hMAT.out.drew)
  go_region_held3 (fun W => W.cell? ⟨L.ma, i * 2, none⟩ = some (.pointer (some ⟨q.b, 0, none⟩)) ∧ W.cell? ⟨L.ma, i * 2 + 1, none⟩ = some (.pointer (some ⟨q.v, 0, none⟩))) (first | with_reducible exact ⟨c0, c1⟩ | with_reducible exact ⟨k0, k1⟩ | with_reducible exact ⟨j0, j1⟩ | with_reducible exact ⟨l0, l1⟩ | go_keep) (first
    | (go_at_call 77; refine HB1.out.mono ?_; rintro e w1 ⟨rfl, hb1⟩; have hM1 := hMAT.out.drew.below hb1; have R1 := blk_keep hb1 (blk_drawn hrow); have k0 := (blk_cell R1 (i * 2)).trans HP0.out; have k1 := (blk_cell R1 (i * 2 + 1)).trans HP1.out; have klt := blk_lt R1; have HL1 := Lib.hid (HLO.out _ hM1))
    | (go_at_call 38; refine HL1.out.mono ?_; rintro e w2 ⟨A2, c2, rfl, own2, hb2⟩; have hb12 := hb1.trans (hb2.mono hb1.size); have R2 := blk_keep hb2 R1; have j0 := (blk_cell R2 (i * 2)).trans HP0.out; have j1 := (blk_cell R2 (i * 2 + 1)).trans HP1.out)
    | (go_at_call 76; refine (HSV.out _ _ _ ((Below.refl _ _).drew.trans hb12) (LogIn.of_own own2)).mono ?_; rintro e w3 ⟨rfl, hv3, hO3⟩; have R3 := hO3.keep R2 hneV; have l0 := (blk_cell R3 (i * 2)).trans HP0.out; have l1 := (blk_cell R3 (i * 2 + 1)).trans HP1.out))
  all_goals go_wp2
  all_goals go_ret
  all_goals (
    obtain ⟨L', hG', hS', _⟩ := (HG.out.drew.below hb12).disk hq hp hO3 hv3
    exact ⟨L', rfl, hG', (GStep.of_below ((Below.refl _ _).drew.trans hb12)).trans hS'⟩)
set_option maxRecDepth 100000 in
set_option maxHeartbeats 6400000 in
theorem anew_any {w : World} {G : Nat} {L : GL} {g : Gr} (h : GAt w G L g) (i : Nat) {q : ML} {p : Mb × Vt} (hq : L.mem[i]? = some q) (hp : g.ms[i]? = some p) (hn : g.ms.length ≤ 16) (hx : VtOk p.2) (hok : newOk ((i : Int) + 1) g.ms.length p.2.2.2.1 p.2.2.2.2.1 0 0 p.2.2.2.2.2 = true) :
    Calls Tryz.prog 24 #[.pointer (some ⟨G, 0, none⟩), .int .i64 ((i : Int) + 1)] w (RetG ⟨g.ms.set i (fresh ((i : Int) + 1) g.ms.length p.2, p.2), g.net⟩ G L (.tuple #[]) w) := by
  have hi : i < g.ms.length := (List.getElem?_eq_some_iff.1 hp).1
  have HOF := Lib.hid (of_any h i hi hn)
  obtain ⟨c0, c1, f0, f1, hlt⟩ := h.ptrs hq
  obtain ⟨hM, hV⟩ := h.mem i q p hq hp
  have HLD : Hid (Calls Tryz.prog 59 #[.pointer (some ⟨q.v, 0, none⟩)] w (RetLoad p.2.2.2 w)) := load_any q.v (q.v + 1) p.2 w hV (by omega) (by have := held_le hx; omega)
  have HNE : Hid (∀ W A c, LogIn W A c p.2.2.2.2.2 → Calls Tryz.prog 60 #[.int .i64 ((i : Int) + 1), .int .i64 (g.ms.length : Int), ballotV p.2.2.2.1 p.2.2.2.2.1, logV 0 0 A p.2.2.2.2.2.length c] W (RetNew (fresh ((i : Int) + 1) g.ms.length p.2) W)) := fun W A c hl => new_yes ((i : Int) + 1) p.2.2.2.1 p.2.2.2.2.1 g.ms.length A c p.2.2.2.2.2 W hl hok
  have hrow := h.row
  have HP0 : Hid ((ptrV L.mem).toArray[i * 2]? = some (.pointer (some ⟨q.b, 0, none⟩))) := by have := (ptrV_at hq).1; simpa [Hid] using this
  obtain ⟨g0, g1, gf0, gf1, glt⟩ := h.cells
  have HG := Lib.hid h
  clear h hV hM hx hok
  generalize fresh ((i : Int) + 1) g.ms.length p.2 = m' at *
  obtain ⟨m0, bs, n0, t, v, es⟩ := p
  simp only at HLD HNE
  go_enter Tryz.func24, Tryz.ntmps24
  go_upto_region 2 with (first
    | (go_at_call 27; refine HOF.out.mono ?_; rintro e wx ⟨rfl, hwx⟩; subst hwx)
    | (go_at_call 59; refine HLD.out.mono ?_; rintro e w1 ⟨A1, c1', rfl, own1, hb1⟩; simp only at own1))
  have hal := below2 w1 (.cells #[.int .i64 t, .int .i64 v] 114) (.cells #[.int .i64 0, .int .i64 0, .slice A1 es.length c1'] 37)
  have b0 := alloc2_fst w1 (.cells #[.int .i64 t, .int .i64 v] 114) (.cells #[.int .i64 0, .int .i64 0, .slice A1 es.length c1'] 37)
  have b1 := alloc2_snd w1 (.cells #[.int .i64 t, .int .i64 v] 114) (.cells #[.int .i64 0, .int .i64 0, .slice A1 es.length c1'] 37)
  have hb2 := hb1.trans (hal.mono hb1.size)
  have own2 := own_below own1 hal
  have rowW := blk_keep hb2 hrow
  have gW := blk_keep hb2 HG.out.blk
  generalize (w1.alloc (.cells #[.int .i64 t, .int .i64 v] 114)).alloc (.cells #[.int .i64 0, .int .i64 0, .slice A1 es.length c1'] 37) = W2 at *
  clear c0 c1 f0 f1 hlt g0 g1 gf0 gf1 glt
  generalize w1.heap.size = F at *
  obtain ⟨bc0, bc1, bf0, bf1, blt⟩ := box2 b0
  obtain ⟨lc0, lc1, lc2, lf0, lf1, lf2, llt⟩ := box3 b1
  obtain ⟨gc0, gc1, gf0, gf1, glt⟩ := box2 gW
  have rf := blk_frozen rowW (i * 2)
  have rl := blk_lt rowW
  have rc := (blk_cell rowW (i * 2)).trans HP0.out
  have HN2 := Lib.hid (HNE.out _ A1 c1' (LogIn.of_own (own_drawn own2)))
  go_region_law (first
    | (go_simp; go_at_call 60; refine HN2.out.mono ?_; rintro e w3 ⟨b3, a3, rfl, H3, hF3, hb3⟩; have row3 := blk_keep hb3 (blk_drawn rowW); have rf3 := blk_frozen row3 (i * 2); have rl3 := blk_lt row3; have rc3 := (blk_cell row3 (i * 2)).trans HP0.out; (try go_simp)))
  all_goals (
    refine bodyPost_end (results_none rfl _ _ _) rfl ?_
    obtain ⟨hG', hS'⟩ := HG.out.renew hq hp (hb2.drew.trans (hb3.mono hb2.size)) H3 (fun x hx => Nat.le_trans hb2.size (hF3 x hx))
    exact ⟨_, rfl, hG', hS'⟩)
end Go.Proofs.YthjdbmfobmnnlaaGreat
