/-
  New, Sync, Bytes, Load.
-/
import Derived.Test.YtnbljcbfnplbaaaVaultMath
import Derived.Test.YtnbljcbfnplbaaaBV
import Derived.Test.YtnbljcbfnplbaaaBE
import Derived.Test.YtnbljcbfnplbaaaBC
import Derived.Test.YtnbljcbfnplbaaaBA
namespace Go.Proofs.Ytnbljcbfnplbaaa
open Go.RowKit
set_option linter.unusedVariables false
theorem box5 {w : World} {F : Nat} {x y z u v : Value} {t : TypeId} (h : w.heap[F]? = some (.cells #[x, y, z, u, v] t)) :
    w.cell? ⟨F, 0, none⟩ = some x ∧ w.cell? ⟨F, 1, none⟩ = some y ∧ w.cell? ⟨F, 2, none⟩ = some z ∧ w.cell? ⟨F, 3, none⟩ = some u ∧ w.cell? ⟨F, 4, none⟩ = some v ∧ w.frozen? ⟨F, 0, none⟩ = false ∧ w.frozen? ⟨F, 1, none⟩ = false ∧ w.frozen? ⟨F, 2, none⟩ = false ∧ w.frozen? ⟨F, 3, none⟩ = false ∧ w.frozen? ⟨F, 4, none⟩ = false ∧ F < w.heap.size :=
  ⟨blk_cell h 0, blk_cell h 1, blk_cell h 2, blk_cell h 3, blk_cell h 4, blk_frozen h 0, blk_frozen h 1, blk_frozen h 2, blk_frozen h 3, blk_frozen h 4, blk_lt h⟩
/-- A disk in block V: its bytes and its entries are rows of its own. -/
def VtAt (w : World) (V base : Nat) (x : Vt) : Prop := ∃ D cd A c, w.heap[V]? = some (.cells #[.slice D x.1.length cd, .int .i64 (x.2.1 : Nat), .int .i64 x.2.2.1, .int .i64 x.2.2.2.1, .slice A x.2.2.2.2.length c] 63) ∧ w.ownsRow base 5 1 (.slice D x.1.length cd) x.1.length (x.1.map byteV) ∧ w.ownsRow base 41 7 (.slice A x.2.2.2.2.length c) x.2.2.2.2.length (ensV x.2.2.2.2)
theorem VtAt.only {w w' : World} {V R base : Nat} {x : Vt} (h : VtAt w V base x) (hb : Only R w w') (hne : V ≠ R) (hR : R < base) : VtAt w' V base x := by
  obtain ⟨D, cd, A, c, g, o1, o2⟩ := h
  exact ⟨D, cd, A, c, hb.keep g hne, own_only o1 hb hR, own_only o2 hb hR⟩
theorem VtAt.below {w w' : World} {V base : Nat} {x : Vt} (h : VtAt w V base x) (hb : Below w.heap.size w w') : VtAt w' V base x := by
  obtain ⟨D, cd, A, c, g, o1, o2⟩ := h
  exact ⟨D, cd, A, c, blk_keep hb g, own_below o1 hb, own_below o2 hb⟩
set_option maxHeartbeats 1600000 in
theorem new_any (w : World) : Calls Try.prog 10 #[] w fun e w' => e = .returned (.pointer (some ⟨w.heap.size, 0, none⟩)) ∧ VtAt w' w.heap.size (w.heap.size + 1) vt0 ∧ w'.heap.size = w.heap.size + 1 ∧ Below w.heap.size w w' := by
  go_enter Try.func10, Try.ntmps10
  go_wp2
  go_ret
  exact ⟨rfl, ⟨none, 0, none, 0, blk_new w _, World.ownsRow_nil _ _ _ _, World.ownsRow_nil _ _ _ _⟩, by simp, below1 w _⟩
set_option maxHeartbeats 1600000 in
theorem sync_any (V base : Nat) (x : Vt) (w : World) (h : VtAt w V base x) (hV : V < base) : Calls Try.prog 12 #[.pointer (some ⟨V, 0, none⟩)] w fun e w' => e = .returned (.tuple #[]) ∧ VtAt w' V base (syncV x) ∧ Only V w w' := by
  obtain ⟨D, cd, A, c, g, o1, o2⟩ := h
  obtain ⟨bs, n, t, v, es⟩ := x
  simp only at g o1 o2
  obtain ⟨c0, c1, c2, c3, c4, f0, f1, f2, f3, f4, hlt⟩ := box5 g
  unfold syncV
  go_enter Try.func12, Try.ntmps12
  go_wp2
  refine bodyPost_end (results_none rfl _ _ _) rfl ?_
  exact ⟨rfl, ⟨D, cd, A, c, blk_set (i := 1) g _, ownsRow_setCell_below o1 (a := ⟨V, 1, none⟩) hV _, ownsRow_setCell_below o2 (a := ⟨V, 1, none⟩) hV _⟩, (Only.refl V w).setCell 1 _⟩
set_option maxHeartbeats 1600000 in
theorem bytes_any (V base : Nat) (x : Vt) (w : World) (h : VtAt w V base x) (hV : V < base) (hl : x.1.length ≤ 1000000) : Calls Try.prog 21 #[.pointer (some ⟨V, 0, none⟩)] w (RetRow 5 1 x.1.length (x.1.map byteV) w) := by
  obtain ⟨D, cd, A, c, g, o1, o2⟩ := h
  obtain ⟨bs, n, t, v, es⟩ := x
  simp only at g o1 o2 hl
  obtain ⟨c0, c1, c2, c3, c4, f0, f1, f2, f3, f4, hlt⟩ := box5 g
  have HC : Hid (Calls Try.prog 28 #[.slice D bs.length cd] w (RetRow 5 1 bs.length (bs.map byteV) w)) := cloneC_any D cd bs w (RowAt.of_own o1) (own_none o1) hl
  go_enter Try.func21, Try.ntmps21
  go_wp2_with (go_at_call 28; refine HC.out.mono ?_; rintro e w2 ⟨a2, cap2, rfl, hown, hb2⟩)
  go_ret
  exact ⟨a2, cap2, rfl, hown, hb2⟩
theorem own_set2 {w : World} {base F : Nat} {e : TypeId} {size n : Nat} {v : Value} {xs : List Value} (h : w.ownsRow base e size v n xs) (hF : F < base) (x y : Value) : (set2 w F x y).ownsRow base e size v n xs :=
  ownsRow_setCell_below (ownsRow_setCell_below h (a := ⟨F, 0, none⟩) hF x) (a := ⟨F, 1, none⟩) hF y
/-- A ballot and a log of its own. -/
def RetLoad (s : St) (w : World) (en : Ending) (w' : World) : Prop := ∃ A c, en = .returned (.tuple #[ballotV s.1 s.2.1, logV 0 0 A s.2.2.length c]) ∧ w'.ownsRow w.heap.size 41 7 (.slice A s.2.2.length c) s.2.2.length (ensV s.2.2) ∧ Below w.heap.size w w'
set_option maxHeartbeats 3200000 in
theorem load_any (V base : Nat) (x : Vt) (w : World) (h : VtAt w V base x) (hV : V < base) (hl : x.2.2.2.2.length ≤ 1000000) : Calls Try.prog 14 #[.pointer (some ⟨V, 0, none⟩)] w (RetLoad x.2.2 w) := by
  obtain ⟨D, cd, A, c, g, o1, o2⟩ := h
  obtain ⟨bs, n, t, v, es⟩ := x
  simp only at g o1 o2 hl ⊢
  obtain ⟨c0, c1, c2, c3, c4, f0, f1, f2, f3, f4, hlt⟩ := box5 g
  have hw0 := below2 w (.cells #[.int .i64 0, .int .i64 0] 23) (.cells #[.int .i64 0, .int .i64 0, .slice none 0 0] 26)
  have g0 := alloc2_fst w (.cells #[.int .i64 0, .int .i64 0] 23) (.cells #[.int .i64 0, .int .i64 0, .slice none 0 0] 26)
  have g1 := alloc2_snd w (.cells #[.int .i64 0, .int .i64 0] 23) (.cells #[.int .i64 0, .int .i64 0, .slice none 0 0] 26)
  have gV := blk_keep hw0 g
  have HC : Hid (∀ W, Below w.heap.size w W → Calls Try.prog 31 #[.slice A es.length c] W (RetRow 41 7 es.length (ensV es) W)) := fun W hb => clone_any A c es W ((LogIn.of_own o2).below hb) hl
  go_enter Try.func14, Try.ntmps14
  go_wp2
  clear c0 c1 c2 c3 c4 f0 f1 f2 f3 f4 hlt
  have hV2 : V < w.heap.size := blk_lt g
  generalize (w.alloc (.cells #[.int .i64 0, .int .i64 0] 23)).alloc (.cells #[.int .i64 0, .int .i64 0, .slice none 0 0] 26) = W0 at *
  obtain ⟨v0, v1, v2, v3, v4, _, _, _, _, _, hlt⟩ := box5 gV
  obtain ⟨b0, b1, bf0, bf1, blt⟩ := box2 g0
  obtain ⟨l0, l1, l2, lf0, lf1, lf2, llt⟩ := box3 g1
  go_region_held3 (fun W => W.cell? ⟨V, 2, none⟩ = some (.int .i64 t) ∧ W.cell? ⟨V, 3, none⟩ = some (.int .i64 v) ∧ W.cell? ⟨V, 4, none⟩ = some (.slice A es.length c)) (first | with_reducible exact ⟨v2, v3, v4⟩ | with_reducible exact ⟨q2, q3, q4⟩ | with_reducible exact ⟨p2, p3, p4⟩ | with_reducible exact ⟨k2, k3, k4⟩ | go_keep) ((go_at_call 31; refine (HC.out _ hw0.drew).mono ?_; rintro e w3 ⟨a3, c3, rfl, own3, hb3⟩; have gV3 := blk_keep hb3 (blk_drawn gV); obtain ⟨k0, k1, k2, k3, k4, _, _, _, _, _, klt⟩ := box5 gV3; have G0 := blk_keep hb3 (blk_drawn g0); have G1 := blk_keep hb3 (blk_drawn g1); obtain ⟨b0, b1, bf0, bf1, blt⟩ := box2 G0; obtain ⟨l0, l1, l2, lf0, lf1, lf2, llt⟩ := box3 G1; obtain ⟨_, _, p2, p3, p4, _⟩ := box5 (set2_far gV3 (show V ≠ w.heap.size by omega) (.int .i64 t) (.int .i64 v)); obtain ⟨_, _, q2, q3, q4, _⟩ := box5 (set3_far (set2_far gV3 (show V ≠ w.heap.size by omega) (.int .i64 t) (.int .i64 v)) (show V ≠ w.heap.size + 1 by omega) (.int .i64 0) (.int .i64 0) (.slice a3 es.length c3))))
  all_goals go_wp2
  all_goals (
    have hk : W0.drew.heap.size = W0.heap.size := rfl
    obtain ⟨q0, q1, _⟩ := box2 (set3_far (set2_blk G0 (.int .i64 t) (.int .i64 v)) (show w.heap.size ≠ w.heap.size + 1 by omega) (.int .i64 0) (.int .i64 0) (.slice a3 es.length c3))
    obtain ⟨r0, r1, r2, _⟩ := box3 (set3_blk (set2_far G1 (show w.heap.size + 1 ≠ w.heap.size by omega) (.int .i64 t) (.int .i64 v)) (.int .i64 0) (.int .i64 0) (.slice a3 es.length c3))
    refine bodyPost_ret (v := .tuple #[ballotV t v, logV 0 0 a3 es.length c3]) (by simp [results, Try.results14, go_sem, q0, q1, r0, r1, r2, ballotV, logV]) rfl ?_
    exact ⟨a3, c3, rfl, own_base (own_set3 (own_set2 own3 (by omega) (.int .i64 t) (.int .i64 v)) (by omega) (.int .i64 0) (.int .i64 0) (.slice a3 es.length c3)) (by omega), set3_below (set2_below (hw0.drew.trans (hb3.mono hw0.size)) (Nat.le_refl _) _ _) (by omega) _ _ _⟩)
end Go.Proofs.Ytnbljcbfnplbaaa
