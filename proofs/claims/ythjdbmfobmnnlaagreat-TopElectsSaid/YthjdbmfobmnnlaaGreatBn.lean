/-
  Bn: several texts in one.
-/
import Derived.Test.YthjdbmfobmnnlaaGreatBl
import Derived.Test.YthjdbmfobmnnlaaGreatFieldsT
import Derived.Test.YthjdbmfobmnnlaaGreatBe
import Derived.Test.YthjdbmfobmnnlaaGreatBa
import Derived.Test.YthjdbmfobmnnlaaGreatBd
import Derived.Test.YthjdbmfobmnnlaaGreatBj
/-
  A state in a block; lists of a known length.
-/
namespace Go.Proofs.YthjdbmfobmnnlaaGreat
open Go.RowKit
set_option linter.unusedVariables false
/-- A state in a block, its entries a row of the call's own. -/
def StAt (w : World) (R base : Nat) (s : St) : Prop := ∃ A cap, w.heap[R]? = some (.cells #[.int .i64 s.1, .int .i64 s.2.1, .slice A s.2.2.length cap] 116) ∧ w.ownsRow base 82 7 (.slice A s.2.2.length cap) s.2.2.length (ensV s.2.2)
def RetStep (R base F : Nat) (s : St) (o : Option St) (w : World) (en : Ending) (w' : World) : Prop := en = .returned (.bool o.isSome) ∧ StAt w' R base (o.getD s) ∧ Below F w w'
theorem list_two {α : Type} {l : List α} (h : l.length = 2) : ∃ a b, l = [a, b] := by
  match l, h with
  | [a, b], _ => exact ⟨a, b, rfl⟩
theorem list_one {α : Type} {l : List α} (h : l.length = 1) : ∃ a, l = [a] := by
  match l, h with
  | [a], _ => exact ⟨a, rfl⟩
theorem list_eight {α : Type} {l : List α} (h : l.length = 8) : ∃ a b c d e f g i, l = [a, b, c, d, e, f, g, i] := by
  match l, h with
  | [a, b, c, d, e, f, g, i], _ => exact ⟨a, b, c, d, e, f, g, i, rfl⟩
end Go.Proofs.YthjdbmfobmnnlaaGreat

/-
  New, Sync, Bytes, Load.
-/
namespace Go.Proofs.YthjdbmfobmnnlaaGreat
open Go.RowKit
set_option linter.unusedVariables false
theorem box5 {w : World} {F : Nat} {x y z u v : Value} {t : TypeId} (h : w.heap[F]? = some (.cells #[x, y, z, u, v] t)) :
    w.cell? ⟨F, 0, none⟩ = some x ∧ w.cell? ⟨F, 1, none⟩ = some y ∧ w.cell? ⟨F, 2, none⟩ = some z ∧ w.cell? ⟨F, 3, none⟩ = some u ∧ w.cell? ⟨F, 4, none⟩ = some v ∧ w.frozen? ⟨F, 0, none⟩ = false ∧ w.frozen? ⟨F, 1, none⟩ = false ∧ w.frozen? ⟨F, 2, none⟩ = false ∧ w.frozen? ⟨F, 3, none⟩ = false ∧ w.frozen? ⟨F, 4, none⟩ = false ∧ F < w.heap.size :=
  ⟨blk_cell h 0, blk_cell h 1, blk_cell h 2, blk_cell h 3, blk_cell h 4, blk_frozen h 0, blk_frozen h 1, blk_frozen h 2, blk_frozen h 3, blk_frozen h 4, blk_lt h⟩
/-- A disk in block V: its bytes and its entries are rows of its own. -/
def VtAt (w : World) (V base : Nat) (P : Nat → Prop) (x : Vt) : Prop := ∃ D cd A c, w.heap[V]? = some (.cells #[.slice D x.1.length cd, .int .i64 (x.2.1 : Nat), .int .i64 x.2.2.1, .int .i64 x.2.2.2.1, .slice A x.2.2.2.2.length c] 118) ∧ w.ownsRow base 5 1 (.slice D x.1.length cd) x.1.length (x.1.map byteV) ∧ w.ownsRow base 82 7 (.slice A x.2.2.2.2.length c) x.2.2.2.2.length (ensV x.2.2.2.2) ∧ ∀ y ∈ blkOf D ++ blkOf A, P y
theorem VtAt.only {w w' : World} {V R base : Nat} {P : Nat → Prop} {x : Vt} (h : VtAt w V base P x) (hb : Only R w w') (hne : V ≠ R) (hR : R < base) : VtAt w' V base P x := by
  obtain ⟨D, cd, A, c, g, o1, o2, oP⟩ := h
  exact ⟨D, cd, A, c, hb.keep g hne, own_only o1 hb hR, own_only o2 hb hR, oP⟩
theorem VtAt.below {w w' : World} {V base : Nat} {P : Nat → Prop} {x : Vt} (h : VtAt w V base P x) (hb : Below w.heap.size w w') : VtAt w' V base P x := by
  obtain ⟨D, cd, A, c, g, o1, o2, oP⟩ := h
  exact ⟨D, cd, A, c, blk_keep hb g, own_below o1 hb, own_below o2 hb, oP⟩
set_option maxHeartbeats 1600000 in
theorem new_any (w : World) : Calls Tryz.prog 23 #[] w fun e w' => e = .returned (.pointer (some ⟨w.heap.size, 0, none⟩)) ∧ VtAt w' w.heap.size (w.heap.size + 1) (fun _ => False) vt0 ∧ w'.heap.size = w.heap.size + 1 ∧ Below w.heap.size w w' := by
  go_enter Tryz.func23, Tryz.ntmps23
  go_wp2
  go_ret
  exact ⟨rfl, ⟨none, 0, none, 0, blk_new w _, World.ownsRow_nil _ _ _ _, World.ownsRow_nil _ _ _ _, fun y hy => by cases hy⟩, by simp, below1 w _⟩
set_option maxHeartbeats 1600000 in
theorem sync_any {P : Nat → Prop} (V base : Nat) (x : Vt) (w : World) (h : VtAt w V base P x) (hV : V < base) : Calls Tryz.prog 61 #[.pointer (some ⟨V, 0, none⟩)] w fun e w' => e = .returned (.tuple #[]) ∧ VtAt w' V base P (syncV x) ∧ Only V w w' := by
  obtain ⟨D, cd, A, c, g, o1, o2, oP⟩ := h
  obtain ⟨bs, n, t, v, es⟩ := x
  simp only at g o1 o2
  obtain ⟨c0, c1, c2, c3, c4, f0, f1, f2, f3, f4, hlt⟩ := box5 g
  unfold syncV
  go_enter Tryz.func61, Tryz.ntmps61
  go_wp2
  refine bodyPost_end (results_none rfl _ _ _) rfl ?_
  exact ⟨rfl, ⟨D, cd, A, c, blk_set (i := 1) g _, ownsRow_setCell_below o1 (a := ⟨V, 1, none⟩) hV _, ownsRow_setCell_below o2 (a := ⟨V, 1, none⟩) hV _, oP⟩, (Only.refl V w).setCell 1 _⟩
theorem own_set2 {w : World} {base F : Nat} {e : TypeId} {size n : Nat} {v : Value} {xs : List Value} (h : w.ownsRow base e size v n xs) (hF : F < base) (x y : Value) : (set2 w F x y).ownsRow base e size v n xs :=
  ownsRow_setCell_below (ownsRow_setCell_below h (a := ⟨F, 0, none⟩) hF x) (a := ⟨F, 1, none⟩) hF y
/-- A ballot and a log of its own. -/
def RetLoad (s : St) (w : World) (en : Ending) (w' : World) : Prop := ∃ A c, en = .returned (.tuple #[ballotV s.1 s.2.1, logV 0 0 A s.2.2.length c]) ∧ w'.ownsRow w.heap.size 82 7 (.slice A s.2.2.length c) s.2.2.length (ensV s.2.2) ∧ Below w.heap.size w w'
set_option maxHeartbeats 3200000 in
theorem load_any {P : Nat → Prop} (V base : Nat) (x : Vt) (w : World) (h : VtAt w V base P x) (hV : V < base) (hl : x.2.2.2.2.length ≤ 1000000) : Calls Tryz.prog 59 #[.pointer (some ⟨V, 0, none⟩)] w (RetLoad x.2.2 w) := by
  obtain ⟨D, cd, A, c, g, o1, o2, oP⟩ := h
  obtain ⟨bs, n, t, v, es⟩ := x
  simp only at g o1 o2 hl ⊢
  obtain ⟨c0, c1, c2, c3, c4, f0, f1, f2, f3, f4, hlt⟩ := box5 g
  have hw0 := below2 w (.cells #[.int .i64 0, .int .i64 0] 114) (.cells #[.int .i64 0, .int .i64 0, .slice none 0 0] 37)
  have g0 := alloc2_fst w (.cells #[.int .i64 0, .int .i64 0] 114) (.cells #[.int .i64 0, .int .i64 0, .slice none 0 0] 37)
  have g1 := alloc2_snd w (.cells #[.int .i64 0, .int .i64 0] 114) (.cells #[.int .i64 0, .int .i64 0, .slice none 0 0] 37)
  have gV := blk_keep hw0 g
  have HC : Hid (∀ W, Below w.heap.size w W → Calls Tryz.prog 80 #[.slice A es.length c] W (RetRow 82 7 es.length (ensV es) W)) := fun W hb => clone_any A c es W ((LogIn.of_own o2).below hb) hl
  go_enter Tryz.func59, Tryz.ntmps59
  go_wp2
  clear c0 c1 c2 c3 c4 f0 f1 f2 f3 f4 hlt
  have hV2 : V < w.heap.size := blk_lt g
  generalize (w.alloc (.cells #[.int .i64 0, .int .i64 0] 114)).alloc (.cells #[.int .i64 0, .int .i64 0, .slice none 0 0] 37) = W0 at *
  obtain ⟨v0, v1, v2, v3, v4, _, _, _, _, _, hlt⟩ := box5 gV
  obtain ⟨b0, b1, bf0, bf1, blt⟩ := box2 g0
  obtain ⟨l0, l1, l2, lf0, lf1, lf2, llt⟩ := box3 g1
  go_region_held3 (fun W => W.cell? ⟨V, 2, none⟩ = some (.int .i64 t) ∧ W.cell? ⟨V, 3, none⟩ = some (.int .i64 v) ∧ W.cell? ⟨V, 4, none⟩ = some (.slice A es.length c)) (first | with_reducible exact ⟨v2, v3, v4⟩ | with_reducible exact ⟨q2, q3, q4⟩ | with_reducible exact ⟨p2, p3, p4⟩ | with_reducible exact ⟨k2, k3, k4⟩ | go_keep) ((go_at_call 80; refine (HC.out _ hw0.drew).mono ?_; rintro e w3 ⟨a3, c3, rfl, own3, hb3⟩; have gV3 := blk_keep hb3 (blk_drawn gV); obtain ⟨k0, k1, k2, k3, k4, _, _, _, _, _, klt⟩ := box5 gV3; have G0 := blk_keep hb3 (blk_drawn g0); have G1 := blk_keep hb3 (blk_drawn g1); obtain ⟨b0, b1, bf0, bf1, blt⟩ := box2 G0; obtain ⟨l0, l1, l2, lf0, lf1, lf2, llt⟩ := box3 G1; obtain ⟨_, _, p2, p3, p4, _⟩ := box5 (set2_far gV3 (show V ≠ w.heap.size by omega) (.int .i64 t) (.int .i64 v)); obtain ⟨_, _, q2, q3, q4, _⟩ := box5 (set3_far (set2_far gV3 (show V ≠ w.heap.size by omega) (.int .i64 t) (.int .i64 v)) (show V ≠ w.heap.size + 1 by omega) (.int .i64 0) (.int .i64 0) (.slice a3 es.length c3))))
  all_goals go_wp2
  all_goals (
    have hk : W0.drew.heap.size = W0.heap.size := rfl
    obtain ⟨q0, q1, _⟩ := box2 (set3_far (set2_blk G0 (.int .i64 t) (.int .i64 v)) (show w.heap.size ≠ w.heap.size + 1 by omega) (.int .i64 0) (.int .i64 0) (.slice a3 es.length c3))
    obtain ⟨r0, r1, r2, _⟩ := box3 (set3_blk (set2_far G1 (show w.heap.size + 1 ≠ w.heap.size by omega) (.int .i64 t) (.int .i64 v)) (.int .i64 0) (.int .i64 0) (.slice a3 es.length c3))
    refine bodyPost_ret (v := .tuple #[ballotV t v, logV 0 0 a3 es.length c3]) (by simp [results, Tryz.results59, go_sem, q0, q1, r0, r1, r2, ballotV, logV]) rfl ?_
    exact ⟨a3, c3, rfl, own_base (own_set3 (own_set2 own3 (by omega) (.int .i64 t) (.int .i64 v)) (by omega) (.int .i64 0) (.int .i64 0) (.slice a3 es.length c3)) (by omega), set3_below (set2_below (hw0.drew.trans (hb3.mono hw0.size)) (Nat.le_refl _) _ _) (by omega) _ _ _⟩)
end Go.Proofs.YthjdbmfobmnnlaaGreat

/-
  What a save refuses.
-/
namespace Go.Proofs.YthjdbmfobmnnlaaGreat
open Go.RowKit
set_option linter.unusedVariables false
set_option maxRecDepth 100000 in
set_option maxHeartbeats 6400000 in
theorem save_bad {P : Nat → Prop} (V base : Nat) (x : Vt) (t v bb bt : Int) (a : Option Addr) (cap : Nat) (l : List En) (w : World) (h : VtAt w V base P x) (hV : V < base) (hb : base ≤ w.heap.size) (hl : LogIn w a cap l) (hwf : ∀ e ∈ l, EnWf e) (hbad : ¬ (mayV t v = true ∧ mayL bb bt l = true ∧ bb = 0 ∧ ∀ e ∈ l, EnFair e)) :
    Calls Tryz.prog 76 #[.pointer (some ⟨V, 0, none⟩), ballotV t v, logV bb bt a l.length cap] w fun e w' => e = .returned (.int .i64 1) ∧ Below w.heap.size w w' := by
  have HV : Hid (∀ W, Calls Tryz.prog 112 #[ballotV t v] W fun e w' => e = .returned (.bool (mayV t v)) ∧ Below W.heap.size W w') := fun W => mayV_any t v W
  have HL : Hid (∀ W, Below w.heap.size w W → Calls Tryz.prog 79 #[logV bb bt a l.length cap] W fun e w' => e = .returned (.bool (mayL bb bt l)) ∧ Below W.heap.size W w') := fun W h => may_any bb bt a cap l W (hl.below h)
  by_cases h1 : mayV t v = true
  rotate_left 1
  · rw [show mayV t v = false by simpa using h1] at HV
    clear h1 hbad
    go_enter Tryz.func76, Tryz.ntmps76
    go_wp2_with (go_at_call 112; refine (HV.out _).mono ?_; rintro e w1 ⟨rfl, hb1⟩; have hw1 := (below2 w (.cells #[.int .i64 t, .int .i64 v] 114) (.cells #[.int .i64 bb, .int .i64 bt, .slice a l.length cap] 37)).trans (hb1.mono (below2 w _ _).size); have g0 := blk_keep hb1 (alloc2_fst w (.cells #[.int .i64 t, .int .i64 v] 114) (.cells #[.int .i64 bb, .int .i64 bt, .slice a l.length cap] 37)); have g1 := blk_keep hb1 (alloc2_snd w (.cells #[.int .i64 t, .int .i64 v] 114) (.cells #[.int .i64 bb, .int .i64 bt, .slice a l.length cap] 37)); obtain ⟨b0, b1, bf0, bf1, blt⟩ := box2 g0; obtain ⟨l0, l1, l2, lf0, lf1, lf2, llt⟩ := box3 g1)
    go_ret
    exact ⟨rfl, hw1⟩
  by_cases h2 : mayL bb bt l = true
  rotate_left 1
  · rw [show mayL bb bt l = false by simpa using h2] at HL
    rw [h1] at HV
    clear h1 h2 hbad
    go_enter Tryz.func76, Tryz.ntmps76
    go_wp2_with (first
      | (go_at_call 112; refine (HV.out _).mono ?_; rintro e w1 ⟨rfl, hb1⟩; have hw1 := (below2 w (.cells #[.int .i64 t, .int .i64 v] 114) (.cells #[.int .i64 bb, .int .i64 bt, .slice a l.length cap] 37)).trans (hb1.mono (below2 w _ _).size); have g0 := blk_keep hb1 (alloc2_fst w (.cells #[.int .i64 t, .int .i64 v] 114) (.cells #[.int .i64 bb, .int .i64 bt, .slice a l.length cap] 37)); have g1 := blk_keep hb1 (alloc2_snd w (.cells #[.int .i64 t, .int .i64 v] 114) (.cells #[.int .i64 bb, .int .i64 bt, .slice a l.length cap] 37)); obtain ⟨b0, b1, bf0, bf1, blt⟩ := box2 g0; obtain ⟨l0, l1, l2, lf0, lf1, lf2, llt⟩ := box3 g1)
      | (go_at_call 79; refine (HL.out _ hw1).mono ?_; rintro e w2 ⟨rfl, hb2⟩; have hw2 := hw1.trans (hb2.mono hw1.size); have g02 := blk_keep hb2 g0; have g12 := blk_keep hb2 g1; obtain ⟨b0, b1, bf0, bf1, blt⟩ := box2 g02; obtain ⟨l0, l1, l2, lf0, lf1, lf2, llt⟩ := box3 g12))
    go_ret
    exact ⟨rfl, hw2⟩
  by_cases h3 : bb = 0
  rotate_left 1
  · rw [h2] at HL
    rw [h1] at HV
    have h3' : (bb != 0) = true := by simpa using h3
    clear h1 h2 h3 hbad
    go_enter Tryz.func76, Tryz.ntmps76
    go_wp2_with (first
      | (go_at_call 112; refine (HV.out _).mono ?_; rintro e w1 ⟨rfl, hb1⟩; have hw1 := (below2 w (.cells #[.int .i64 t, .int .i64 v] 114) (.cells #[.int .i64 bb, .int .i64 bt, .slice a l.length cap] 37)).trans (hb1.mono (below2 w _ _).size); have g0 := blk_keep hb1 (alloc2_fst w (.cells #[.int .i64 t, .int .i64 v] 114) (.cells #[.int .i64 bb, .int .i64 bt, .slice a l.length cap] 37)); have g1 := blk_keep hb1 (alloc2_snd w (.cells #[.int .i64 t, .int .i64 v] 114) (.cells #[.int .i64 bb, .int .i64 bt, .slice a l.length cap] 37)); obtain ⟨b0, b1, bf0, bf1, blt⟩ := box2 g0; obtain ⟨l0, l1, l2, lf0, lf1, lf2, llt⟩ := box3 g1)
      | (go_at_call 79; refine (HL.out _ hw1).mono ?_; rintro e w2 ⟨rfl, hb2⟩; have hw2 := hw1.trans (hb2.mono hw1.size); have g02 := blk_keep hb2 g0; have g12 := blk_keep hb2 g1; obtain ⟨b0, b1, bf0, bf1, blt⟩ := box2 g02; obtain ⟨l0, l1, l2, lf0, lf1, lf2, llt⟩ := box3 g12))
    go_ret
    exact ⟨rfl, hw2⟩
  have h4 : l.any oddE = true := by
    have := fun h => hbad ⟨h1, h2, h3, (odd_fair h2).1 h⟩
    simpa using this
  have hl64 := (mayL_true h2).2.2.2.2.2.1
  subst h3
  have HO : Hid (∀ W, Below w.heap.size w W → Calls Tryz.prog 121 #[.slice a l.length cap, .func (.func 122) #[] #[]] W fun e w' => e = .returned (.bool (l.any oddE)) ∧ Below W.heap.size W w') := fun W h => containsE_any a cap l W ((hl.below h).row) (by omega) hwf
  rw [h2] at HL
  rw [h1] at HV
  rw [h4] at HO
  clear h1 h2 h4 hbad
  go_enter Tryz.func76, Tryz.ntmps76
  go_wp2_with (first
    | (go_at_call 112; refine (HV.out _).mono ?_; rintro e w1 ⟨rfl, hb1⟩; have hw1 := (below2 w (.cells #[.int .i64 t, .int .i64 v] 114) (.cells #[.int .i64 0, .int .i64 bt, .slice a l.length cap] 37)).trans (hb1.mono (below2 w _ _).size); have g0 := blk_keep hb1 (alloc2_fst w (.cells #[.int .i64 t, .int .i64 v] 114) (.cells #[.int .i64 0, .int .i64 bt, .slice a l.length cap] 37)); have g1 := blk_keep hb1 (alloc2_snd w (.cells #[.int .i64 t, .int .i64 v] 114) (.cells #[.int .i64 0, .int .i64 bt, .slice a l.length cap] 37)); obtain ⟨b0, b1, bf0, bf1, blt⟩ := box2 g0; obtain ⟨l0, l1, l2, lf0, lf1, lf2, llt⟩ := box3 g1)
    | (go_at_call 79; refine (HL.out _ hw1).mono ?_; rintro e w2 ⟨rfl, hb2⟩; have hw2 := hw1.trans (hb2.mono hw1.size); have g02 := blk_keep hb2 g0; have g12 := blk_keep hb2 g1; obtain ⟨b0, b1, bf0, bf1, blt⟩ := box2 g02; obtain ⟨l0, l1, l2, lf0, lf1, lf2, llt⟩ := box3 g12)
    | (go_at_call 121; refine (HO.out _ hw2).mono ?_; rintro e w3 ⟨rfl, hb3⟩; have hw3 := hw2.trans (hb3.mono hw2.size); have g03 := blk_keep hb3 g02; have g13 := blk_keep hb3 g12; obtain ⟨b0, b1, bf0, bf1, blt⟩ := box2 g03; obtain ⟨l0, l1, l2, lf0, lf1, lf2, llt⟩ := box3 g13))
  go_ret
  exact ⟨rfl, hw3⟩
end Go.Proofs.YthjdbmfobmnnlaaGreat
