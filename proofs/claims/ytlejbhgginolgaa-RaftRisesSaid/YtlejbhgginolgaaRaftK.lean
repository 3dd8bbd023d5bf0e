/-
  A member is asked for its vote.
-/
import Derived.Test.YtlejbhgginolgaaRaftI
namespace Go.Proofs.Ytlejbhgginolgaa
open Go.RowKit
set_option linter.unusedVariables false
/-- One message, in a new row. -/
theorem MsAt.one {w : World} {base : Nat} (x : Ms) (a : Option Addr) (c : Nat) (hb : base ≤ w.heap.size) (he : w.ownsRow base 47 7 (.slice a x.ents.length c) x.ents.length (ensV x.ents)) :
    MsAt (w.alloc (.cells #[.int .i64 x.kind, .int .i64 x.frm, .int .i64 x.dst, .int .i64 x.term, .int .i64 x.index, .int .i64 x.lterm, .int .i64 x.commit, .bool x.yes, .slice a x.ents.length c] 37)) base (some ⟨w.heap.size, 0, none⟩) 1 [x] [(a, c)] := by
  refine ⟨?_, rfl, fun k hk => ?_⟩
  · have := World.ownsRow_lit (base := base) (e := 37) (size := 9) w #[.int .i64 x.kind, .int .i64 x.frm, .int .i64 x.dst, .int .i64 x.term, .int .i64 x.index, .int .i64 x.lterm, .int .i64 x.commit, .bool x.yes, .slice a x.ents.length c] 1 hb (by unfold maxLen; omega) (by rfl)
    simpa [msV, Ms.cells] using this
  · have hk0 : k = 0 := by simpa using hk
    subst hk0
    exact own_below he (below1 w _)
theorem RetR.one {w w1 w' : World} {b : Nat} {a a' : MA} {m' : Mb} (x : Ms) {A : Option Addr} {c : Nat} (h : MAt w1 b a' m') (hs : Step w b a w1 a') (he : w1.ownsRow w1.heap.size 47 7 (.slice A x.ents.length c) x.ents.length (ensV x.ents))
    (hw : w' = w1.alloc (.cells #[.int .i64 x.kind, .int .i64 x.frm, .int .i64 x.dst, .int .i64 x.term, .int .i64 x.index, .int .i64 x.lterm, .int .i64 x.commit, .bool x.yes, .slice A x.ents.length c] 37)) : RetR m' [x] b a w (.returned (.slice (some ⟨w1.heap.size, 0, none⟩) 1 1)) w' := by
  subst hw
  exact ⟨a', w1.heap.size, _, 1, _, rfl, h.below (below1 _ _), hs.below (below1 _ _), hs.chg.size, h.lt, MsAt.one x A c (Nat.le_refl _) he⟩
theorem MAt.far {w : World} {b : Nat} {a : MA} {m : Mb} (h : MAt w b a m) {F : Nat} (hF : F ∉ foot b a) (i : Nat) (v : Value) : MAt (w.setCell ⟨F, i, none⟩ v) b a m := h.chg ((Chg.refl [F] w).setCell (.inl (by simp)) i v) fun x hx hc => by rw [List.mem_singleton] at hc; subst hc; exact hF hx
theorem Step.fresh {w w1 : World} {b : Nat} {a a1 : MA} (h : Step w b a w1 a1) {F : Nat} (hF : w.heap.size ≤ F) (i : Nat) (v : Value) : Step w b a (w1.setCell ⟨F, i, none⟩ v) a1 := ⟨h.chg.setCell (.inr hF) i v, h.sub⟩
section
variable {w : World} {b : Nat} {a : MA} {m : Mb}
set_option maxRecDepth 100000 in
set_option maxHeartbeats 6400000 in
theorem asked_any (h : MAt w b a m) (x : Ms) (am : Option Addr) (cm : Nat) : Calls Try.prog 34 #[.pointer (some ⟨b, 0, none⟩), x.val am cm] w (RetR (m.asked x).1 (m.asked x).2 b a w) := by
  have HS : Hid (∀ W, Below w.heap.size w W → Calls Try.prog 29 #[.pointer (some ⟨b, 0, none⟩), .int .i64 1, .int .i64 x.frm] W fun e w' => e = .returned (.agg #[.int .i64 1, .int .i64 m.id, .int .i64 x.frm, .int .i64 m.term, .int .i64 0, .int .i64 0, .int .i64 0, .bool false, .slice none 0 0]) ∧ Below W.heap.size W w') := fun W hW => say_any (h.below hW) 1 x.frm
  have HG : Hid (∀ W, Below w.heap.size w W → Calls Try.prog 47 #[ballotV m.term m.vote, logV 0 0 a.la m.log.length a.lc, x.val am cm] W fun e w' => e = .returned (.tuple #[ballotV (grantF m.term m.vote 0 0 m.log x.frm x.term x.index x.lterm).1 (grantF m.term m.vote 0 0 m.log x.frm x.term x.index x.lterm).2.1, .bool (grantF m.term m.vote 0 0 m.log x.frm x.term x.index x.lterm).2.2]) ∧ Below W.heap.size W w') := fun W hW =>
    grant_any m.term m.vote 0 0 a.la a.lc m.log (x.kind, x.frm, x.dst, x.term, x.index, x.lterm, x.commit, x.yes, x.ents) am cm W (LogIn.of_own (own_below h.log hW))
  have HX : Hid (m.asked x = ({ m with term := (grantF m.term m.vote 0 0 m.log x.frm x.term x.index x.lterm).1, vote := (grantF m.term m.vote 0 0 m.log x.frm x.term x.index x.lterm).2.1 }, [⟨1, m.id, x.frm, m.term, 0, 0, 0, (grantF m.term m.vote 0 0 m.log x.frm x.term x.index x.lterm).2.2, []⟩])) := rfl
  generalize grantF m.term m.vote 0 0 m.log x.frm x.term x.index x.lterm = G at HG HX
  obtain ⟨gt, gv, gy⟩ := G
  simp only at HG HX
  have hal := below1 w (.cells #[.int .i64 x.kind, .int .i64 x.frm, .int .i64 x.dst, .int .i64 x.term, .int .i64 x.index, .int .i64 x.lterm, .int .i64 x.commit, .bool x.yes, .slice am x.ents.length cm] 37)
  have g0 := blk_new w (.cells #[.int .i64 x.kind, .int .i64 x.frm, .int .i64 x.dst, .int .i64 x.term, .int .i64 x.index, .int .i64 x.lterm, .int .i64 x.commit, .bool x.yes, .slice am x.ents.length cm] 37)
  have HO := Lib.hid h
  have hnx := h.new (Nat.le_refl w.heap.size)
  go_enter Try.func34, Try.ntmps34
  go_wp2_with (go_at_call 29; refine (HS.out _ hal).mono ?_; rintro e w1 ⟨rfl, hb1⟩; have hw1 := hal.trans (hb1.mono hal.size); have G0 := blk_keep hb1 g0)
  have hwA := hw1.trans ((below1 w1 (.cells #[.int .i64 1, .int .i64 m.id, .int .i64 x.frm, .int .i64 m.term, .int .i64 0, .int .i64 0, .int .i64 0, .bool false, .slice none 0 0] 37)).mono hw1.size)
  have G0' := blk_keep (below1 w1 (.cells #[.int .i64 1, .int .i64 m.id, .int .i64 x.frm, .int .i64 m.term, .int .i64 0, .int .i64 0, .int .i64 0, .bool false, .slice none 0 0] 37)) G0
  have G1 := blk_new w1 (.cells #[.int .i64 1, .int .i64 m.id, .int .i64 x.frm, .int .i64 m.term, .int .i64 0, .int .i64 0, .int .i64 0, .bool false, .slice none 0 0] 37)
  have hlt0 := blk_lt G0
  have hn1 : w1.heap.size ∉ foot b a := h.new hw1.size
  have hF1 : w.heap.size ≤ w1.heap.size := hw1.size
  clear hb1 hw1 G0 g0 hal
  generalize w1.alloc (.cells #[.int .i64 1, .int .i64 m.id, .int .i64 x.frm, .int .i64 m.term, .int .i64 0, .int .i64 0, .int .i64 0, .bool false, .slice none 0 0] 37) = W1 at *
  generalize w1.heap.size = F1 at *
  have hbF : b ≠ F1 := fun e => hn1 (e ▸ foot_b b a)
  have hbX : b ≠ w.heap.size := fun e => hnx (e ▸ foot_b b a)
  have H1 := HO.out.below hwA
  have HG2 := Lib.hid (HG.out W1.drew hwA.drew)
  obtain ⟨x0, x1, x2, x3, x4, x5, x6, x7, x8⟩ := box9 G0'
  obtain ⟨c0, c1, c2, c3, c4, c5, c6, c7, c8, c9, hlt⟩ := box10 H1.blk
  have flt := blk_lt G0'
  go_cut [5] (fun p wx => p = .pointer (some ⟨F1, 0, none⟩) ∧ wx.heap[F1]? = some (.cells #[.int .i64 1, .int .i64 m.id, .int .i64 x.frm, .int .i64 m.term, .int .i64 0, .int .i64 0, .int .i64 0, .bool gy, .slice none 0 0] 37) ∧ MAt wx b a { m with term := gt, vote := gv } ∧ Step w b a wx a)
  case first =>
    go_region_law (first
      | (go_simp; go_at_call 47; refine HG2.out.mono ?_; rintro e w3 ⟨rfl, hb3⟩; have H3 := H1.drew.below hb3; have G3 := blk_keep hb3 (blk_drawn G1); obtain ⟨fs0, fs1, fs2, fs3, fs4, fs5, fs6, fs7, fs8, fs9⟩ := fro9 G3; obtain ⟨y0, y1, y2, y3, y4, y5, y6, y7, y8⟩ := box9 G3; obtain ⟨d0, d1, d2, d3, d4, d5, d6, d7, d8, d9, dlt⟩ := box10 H3.blk; obtain ⟨fr0, fr1, fr2, fr3, fr4, fr5, fr6, fr7, fr8, fr9⟩ := fro9 H3.blk; have flt3 := blk_lt G3; have S3 : Step w b a w3 a := ((Step.of_below hwA).drew).below hb3; (try go_simp)))
    all_goals (go_wp2_with fail; go_meet)
    all_goals (first
      | exact ⟨rfl, blk_set (i := 7) (blk_far (blk_far G3 (Ne.symm hbF) _) (Ne.symm hbF) _) _, ((H3.store 1 (.int .i64 gt) (m' := { m with term := gt }) rfl rfl rfl rfl).store 2 (.int .i64 gv) (m' := { m with term := gt, vote := gv }) rfl rfl rfl rfl).far hn1 _ _, ((S3.store 1 _).store 2 _).fresh hF1 _ _⟩
      | exact ⟨rfl, blk_far (blk_far (blk_set (i := 7) G3 _) (Ne.symm hbF) _) (Ne.symm hbF) _, ((H3.far hn1 7 (.bool gy)).store 1 (.int .i64 gt) (m' := { m with term := gt }) rfl rfl rfl rfl).store 2 (.int .i64 gv) (m' := { m with term := gt, vote := gv }) rfl rfl rfl rfl, ((S3.fresh hF1 _ _).store 1 _).store 2 _⟩)
  case rest =>
    obtain ⟨rfl, G4, H4, S4⟩ := hcut
    obtain ⟨y0, y1, y2, y3, y4, y5, y6, y7, y8⟩ := box9 G4
    clear x0 x1 x2 x3 x4 x5 x6 x7 x8 c0 c1 c2 c3 c4 c5 c6 c7 c8 c9 hlt flt
    go_wp2
    go_ret
    rw [HX.out]
    exact RetR.one ⟨1, m.id, x.frm, m.term, 0, 0, 0, gy, []⟩ H4 S4 (World.ownsRow_nil _ _ _ _) rfl
end
end Go.Proofs.Ytlejbhgginolgaa
