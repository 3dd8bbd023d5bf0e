/-
  A save, whole; Read.
-/
import Derived.Test.YtnbljcbfnplbaaaVaultM
import Derived.Test.YtnbljcbfnplbaaaBK
namespace Go.Proofs.Ytnbljcbfnplbaaa
open Go.RowKit
set_option linter.unusedVariables false
theorem save_any (V base : Nat) (x : Vt) (t v bb bt : Int) (a : Option Addr) (cap : Nat) (l : List En) (w : World) (h : VtAt w V base x) (hV : V < base) (hb : base ≤ w.heap.size) (hl : LogIn w a cap l) (hwf : ∀ e ∈ l, EnWf e) (hx : VtOk x) (hl65 : x.1.length ≤ 65536) :
    Calls Try.prog 11 #[.pointer (some ⟨V, 0, none⟩), ballotV t v, logV bb bt a l.length cap] w fun e w' => e = .returned (.int .i64 (saveE x t v bb bt l)) ∧ VtAt w' V base (saveV x t v bb bt l) ∧ Only V w w' := by
  by_cases hg : mayV t v = true ∧ mayL bb bt l = true ∧ bb = 0 ∧ ∀ e ∈ l, EnFair e
  · obtain ⟨h1, h2, rfl, h4⟩ := hg
    exact save_good V base x t v bt a cap l w h hV hb hl hwf hx hl65 h1 h2 h4
  · have he := saveE_bad (x := x) hg
    rw [saveV_no (x := x) (by rw [he]; decide), he]
    refine (save_bad V base x t v bb bt a cap l w h hV hb hl hwf hg).mono ?_
    rintro e w' ⟨rfl, hb1⟩
    exact ⟨rfl, h.below hb1, Only.of_below hb1⟩
/-- A ballot, a log and a number. -/
def RetReadP (r : St × Nat) (w : World) (en : Ending) (w' : World) : Prop := ∃ A c, en = .returned (.tuple #[ballotV r.1.1 r.1.2.1, logV 0 0 A r.1.2.2.length c, .int .i64 r.2]) ∧ w'.ownsRow w.heap.size 41 7 (.slice A r.1.2.2.length c) r.1.2.2.length (ensV r.1.2.2) ∧ Below w.heap.size w w'
set_option maxRecDepth 100000 in
set_option maxHeartbeats 6400000 in
theorem readP_any (a : Option Addr) (cap : Nat) (bs : List UInt8) (w : World) (hb : CellsB w a bs) (hcap : bs.length ≤ cap) (hl : bs.length ≤ 900000) :
    Calls Try.prog 22 #[.slice a bs.length cap] w (RetReadP (readV bs) w) := by
  have HR : Hid (∀ W, Below w.heap.size w W → Calls Try.prog 32 #[.slice a bs.length cap] W (RetRead (readV bs) W)) := fun W hW => read_any a cap bs W (hb.below hW) hcap hl
  generalize readV bs = r at HR ⊢
  obtain ⟨⟨t, v, es⟩, k⟩ := r
  have hw0 := below2 w (.cells #[.int .i64 0, .int .i64 0] 23) (.cells #[.int .i64 0, .int .i64 0, .slice none 0 0] 26)
  have g0 := alloc2_fst w (.cells #[.int .i64 0, .int .i64 0] 23) (.cells #[.int .i64 0, .int .i64 0, .slice none 0 0] 26)
  have g1 := alloc2_snd w (.cells #[.int .i64 0, .int .i64 0] 23) (.cells #[.int .i64 0, .int .i64 0, .slice none 0 0] 26)
  go_enter Try.func22, Try.ntmps22
  go_wp2_with (go_at_call 32; refine (HR.out _ hw0).mono ?_; rintro en w1 ⟨A1, c1, rfl, ownA, hb1⟩; simp only at ownA; rw [show ((w.alloc (.cells #[.int .i64 0, .int .i64 0] 23)).alloc (.cells #[.int .i64 0, .int .i64 0, .slice none 0 0] 26)).heap.size = w.heap.size + 2 by simp] at ownA; have hw1 := hw0.trans (hb1.mono hw0.size); have G0 := blk_keep hb1 g0; have G1 := blk_keep hb1 g1; have hsz := hb1.size)
  have hwz : w.heap.size + 1 < w1.heap.size := blk_lt G1
  have hb2 := below1 w1 (.cells #[.int .i64 t, .int .i64 v, .slice A1 es.length c1] 61)
  have G02 := blk_keep hb2 G0
  have G12 := blk_keep hb2 G1
  have GS := blk_new w1 (.cells #[.int .i64 t, .int .i64 v, .slice A1 es.length c1] 61)
  have own2 := own_below ownA hb2
  have hw2 := hw1.trans (hb2.mono hw1.size)
  generalize hSq : w1.heap.size = S at *
  generalize w1.alloc (.cells #[.int .i64 t, .int .i64 v, .slice A1 es.length c1] 61) = W2 at *
  obtain ⟨s0, s1, s2, _, _, _, slt⟩ := box3 GS
  obtain ⟨b0, b1, bf0, bf1, blt⟩ := box2 G02
  obtain ⟨l0, l1, l2, lf0, lf1, lf2, llt⟩ := box3 G12
  obtain ⟨p0, p1, p2, _⟩ := box3 (set2_far GS (show S ≠ w.heap.size by omega) (.int .i64 t) (.int .i64 v))
  obtain ⟨q0, q1, q2, _⟩ := box3 (set3_far (set2_far GS (show S ≠ w.heap.size by omega) (.int .i64 t) (.int .i64 v)) (show S ≠ w.heap.size + 1 by omega) (.int .i64 0) (.int .i64 0) (.slice A1 es.length c1))
  go_region_held3 (fun W => W.cell? ⟨S, 0, none⟩ = some (.int .i64 t) ∧ W.cell? ⟨S, 1, none⟩ = some (.int .i64 v) ∧ W.cell? ⟨S, 2, none⟩ = some (.slice A1 es.length c1)) (first | with_reducible exact ⟨s0, s1, s2⟩ | with_reducible exact ⟨p0, p1, p2⟩ | with_reducible exact ⟨q0, q1, q2⟩ | go_keep) (fail)
  all_goals go_wp2
  all_goals (
    obtain ⟨e0, e1, _⟩ := box2 (set3_far (set2_blk G02 (.int .i64 t) (.int .i64 v)) (show w.heap.size ≠ w.heap.size + 1 by omega) (.int .i64 0) (.int .i64 0) (.slice A1 es.length c1))
    obtain ⟨r0, r1, r2, _⟩ := box3 (set3_blk (set2_far G12 (show w.heap.size + 1 ≠ w.heap.size by omega) (.int .i64 t) (.int .i64 v)) (.int .i64 0) (.int .i64 0) (.slice A1 es.length c1))
    refine bodyPost_ret (v := .tuple #[ballotV t v, logV 0 0 A1 es.length c1, .int .i64 k]) (by simp [results, Try.results22, go_sem, e0, e1, r0, r1, r2, ballotV, logV]) rfl ?_
    exact ⟨A1, c1, rfl, own_base (own_set3 (own_set2 own2 (by omega) (.int .i64 t) (.int .i64 v)) (by omega) (.int .i64 0) (.int .i64 0) (.slice A1 es.length c1)) (by omega), (set3_below (set2_below hw2 (Nat.le_refl _) _ _) (by omega) _ _ _).drew⟩)
end Go.Proofs.Ytnbljcbfnplbaaa
