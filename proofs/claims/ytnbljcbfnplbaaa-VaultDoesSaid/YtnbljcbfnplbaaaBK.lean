/-
  BK: several texts in one.
-/
import Derived.Test.YtnbljcbfnplbaaaVaultF
import Derived.Test.YtnbljcbfnplbaaaVaultMath
import Derived.Test.YtnbljcbfnplbaaaVaultH
import Derived.Test.YtnbljcbfnplbaaaVaultI
/-
  What a save needs: the plain law.
-/
namespace Go.Proofs.Ytnbljcbfnplbaaa
open Go.RowKit
set_option linter.unusedVariables false
/-! ### What a save needs -/
theorem odd_fair {b bt : Int} {l : List En} (hm : mayL b bt l = true) : l.any oddE = false ↔ ∀ e ∈ l, EnFair e := by
  obtain ⟨_, _, _, _, _, h6, h7⟩ := mayL_true hm
  rw [← Bool.not_eq_true, List.any_eq_true]
  constructor
  · intro h e he
    by_cases hf : EnFair e
    · exact hf
    · exact (h ⟨e, he, by unfold oddE; simp [hf]⟩).elim
  · rintro h ⟨e, he, ho⟩
    obtain ⟨i, hi, rfl⟩ := List.getElem_of_mem he
    have ht := rising_at hi h7
    unfold oddE at ho
    simp only [Bool.not_eq_true', decide_eq_false_iff_not] at ho
    exact ho ⟨h _ he, by omega, by omega⟩
theorem saveE_bad {x : Vt} {t v b bt : Int} {l : List En} (h : ¬ (mayV t v = true ∧ mayL b bt l = true ∧ b = 0 ∧ ∀ e ∈ l, EnFair e)) : saveE x t v b bt l = 1 := if_neg h
theorem saveE_ok {x : Vt} {t v b bt : Int} {l : List En} (h : mayV t v = true ∧ mayL b bt l = true ∧ b = 0 ∧ ∀ e ∈ l, EnFair e) : saveE x t v b bt l = if 65536 < (x.1 ++ saveB x.2.2 t v l).length then 7 else 0 := if_pos h
theorem saveV_no {x : Vt} {t v b bt : Int} {l : List En} (h : saveE x t v b bt l ≠ 0) : saveV x t v b bt l = x := if_neg h
theorem commonN_eq : ∀ {es fs : List En} {k : Nat}, k ≤ es.length → k ≤ fs.length → es.take k = fs.take k → (k < es.length → k < fs.length → es[k]? ≠ fs[k]?) → commonN es fs = k
  | [], fs, k, h1, _, _, _ => by simp at h1; simp [commonN, h1]
  | e :: es, [], k, _, h2, _, _ => by simp at h2; simp [commonN, h2]
  | e :: es, f :: fs, 0, _, _, _, h4 => by
    have := h4 (by simp) (by simp)
    simp only [List.getElem?_cons_zero, ne_eq, Option.some.injEq] at this
    unfold commonN
    rw [if_neg this]
  | e :: es, f :: fs, k + 1, h1, h2, h3, h4 => by
    simp only [List.take_succ_cons, List.cons.injEq] at h3
    simp only [List.length_cons] at h1 h2 h4
    unfold commonN
    rw [if_pos h3.1, commonN_eq (k := k) (by omega) (by omega) h3.2 (fun a b => by have := h4 (by omega) (by omega); simpa using this)]
theorem entRecs_snoc : ∀ (es : List En) (i : Nat) (e : En), entRecs i (es ++ [e]) = entRecs i es ++ recB 2 (numsOf ((i + es.length + 1 : Nat) : Int) e)
  | [], i, e => by simp [entRecs]
  | x :: es, i, e => by
    rw [List.cons_append, entRecs, entRecs_snoc es (i + 1) e, entRecs, List.append_assoc, List.length_cons]
    rw [show i + 1 + es.length + 1 = i + (es.length + 1) + 1 by omega]
theorem entRecs_le : ∀ (es : List En) (i : Nat), (∀ j (h : j < es.length), RecOk 2 (numsOf ((i + j + 1 : Nat) : Int) (es[j]'h))) → (entRecs i es).length ≤ es.length * 83
  | [], i, _ => by simp [entRecs]
  | e :: es, i, h => by
    have h0 := (rec_length (h 0 (by simp))).2
    have h1 := entRecs_le es (i + 1) (fun j hj => by have := h (j + 1) (by simp; omega); simpa [show i + (j + 1) + 1 = i + 1 + j + 1 by omega] using this)
    simp only [Nat.add_zero, List.getElem_cons_zero] at h0
    rw [entRecs, List.length_append, List.length_cons]
    omega
end Go.Proofs.Ytnbljcbfnplbaaa

/-
  What a save refuses.
-/
namespace Go.Proofs.Ytnbljcbfnplbaaa
open Go.RowKit
set_option linter.unusedVariables false
set_option maxRecDepth 100000 in
set_option maxHeartbeats 6400000 in
theorem save_bad (V base : Nat) (x : Vt) (t v bb bt : Int) (a : Option Addr) (cap : Nat) (l : List En) (w : World) (h : VtAt w V base x) (hV : V < base) (hb : base ≤ w.heap.size) (hl : LogIn w a cap l) (hwf : ∀ e ∈ l, EnWf e) (hbad : ¬ (mayV t v = true ∧ mayL bb bt l = true ∧ bb = 0 ∧ ∀ e ∈ l, EnFair e)) :
    Calls Try.prog 11 #[.pointer (some ⟨V, 0, none⟩), ballotV t v, logV bb bt a l.length cap] w fun e w' => e = .returned (.int .i64 1) ∧ Below w.heap.size w w' := by
  have HV : Hid (∀ W, Calls Try.prog 25 #[ballotV t v] W fun e w' => e = .returned (.bool (mayV t v)) ∧ Below W.heap.size W w') := fun W => mayV_any t v W
  have HL : Hid (∀ W, Below w.heap.size w W → Calls Try.prog 24 #[logV bb bt a l.length cap] W fun e w' => e = .returned (.bool (mayL bb bt l)) ∧ Below W.heap.size W w') := fun W h => may_any bb bt a cap l W (hl.below h)
  by_cases h1 : mayV t v = true
  rotate_left 1
  · rw [show mayV t v = false by simpa using h1] at HV
    clear h1 hbad
    go_enter Try.func11, Try.ntmps11
    go_wp2_with (go_at_call 25; refine (HV.out _).mono ?_; rintro e w1 ⟨rfl, hb1⟩; have hw1 := (below2 w (.cells #[.int .i64 t, .int .i64 v] 23) (.cells #[.int .i64 bb, .int .i64 bt, .slice a l.length cap] 26)).trans (hb1.mono (below2 w _ _).size); have g0 := blk_keep hb1 (alloc2_fst w (.cells #[.int .i64 t, .int .i64 v] 23) (.cells #[.int .i64 bb, .int .i64 bt, .slice a l.length cap] 26)); have g1 := blk_keep hb1 (alloc2_snd w (.cells #[.int .i64 t, .int .i64 v] 23) (.cells #[.int .i64 bb, .int .i64 bt, .slice a l.length cap] 26)); obtain ⟨b0, b1, bf0, bf1, blt⟩ := box2 g0; obtain ⟨l0, l1, l2, lf0, lf1, lf2, llt⟩ := box3 g1)
    go_ret
    exact ⟨rfl, hw1⟩
  by_cases h2 : mayL bb bt l = true
  rotate_left 1
  · rw [show mayL bb bt l = false by simpa using h2] at HL
    rw [h1] at HV
    clear h1 h2 hbad
    go_enter Try.func11, Try.ntmps11
    go_wp2_with (first
      | (go_at_call 25; refine (HV.out _).mono ?_; rintro e w1 ⟨rfl, hb1⟩; have hw1 := (below2 w (.cells #[.int .i64 t, .int .i64 v] 23) (.cells #[.int .i64 bb, .int .i64 bt, .slice a l.length cap] 26)).trans (hb1.mono (below2 w _ _).size); have g0 := blk_keep hb1 (alloc2_fst w (.cells #[.int .i64 t, .int .i64 v] 23) (.cells #[.int .i64 bb, .int .i64 bt, .slice a l.length cap] 26)); have g1 := blk_keep hb1 (alloc2_snd w (.cells #[.int .i64 t, .int .i64 v] 23) (.cells #[.int .i64 bb, .int .i64 bt, .slice a l.length cap] 26)); obtain ⟨b0, b1, bf0, bf1, blt⟩ := box2 g0; obtain ⟨l0, l1, l2, lf0, lf1, lf2, llt⟩ := box3 g1)
      | (go_at_call 24; refine (HL.out _ hw1).mono ?_; rintro e w2 ⟨rfl, hb2⟩; have hw2 := hw1.trans (hb2.mono hw1.size); have g02 := blk_keep hb2 g0; have g12 := blk_keep hb2 g1; obtain ⟨b0, b1, bf0, bf1, blt⟩ := box2 g02; obtain ⟨l0, l1, l2, lf0, lf1, lf2, llt⟩ := box3 g12))
    go_ret
    exact ⟨rfl, hw2⟩
  by_cases h3 : bb = 0
  rotate_left 1
  · rw [h2] at HL
    rw [h1] at HV
    have h3' : (bb != 0) = true := by simpa using h3
    clear h1 h2 h3 hbad
    go_enter Try.func11, Try.ntmps11
    go_wp2_with (first
      | (go_at_call 25; refine (HV.out _).mono ?_; rintro e w1 ⟨rfl, hb1⟩; have hw1 := (below2 w (.cells #[.int .i64 t, .int .i64 v] 23) (.cells #[.int .i64 bb, .int .i64 bt, .slice a l.length cap] 26)).trans (hb1.mono (below2 w _ _).size); have g0 := blk_keep hb1 (alloc2_fst w (.cells #[.int .i64 t, .int .i64 v] 23) (.cells #[.int .i64 bb, .int .i64 bt, .slice a l.length cap] 26)); have g1 := blk_keep hb1 (alloc2_snd w (.cells #[.int .i64 t, .int .i64 v] 23) (.cells #[.int .i64 bb, .int .i64 bt, .slice a l.length cap] 26)); obtain ⟨b0, b1, bf0, bf1, blt⟩ := box2 g0; obtain ⟨l0, l1, l2, lf0, lf1, lf2, llt⟩ := box3 g1)
      | (go_at_call 24; refine (HL.out _ hw1).mono ?_; rintro e w2 ⟨rfl, hb2⟩; have hw2 := hw1.trans (hb2.mono hw1.size); have g02 := blk_keep hb2 g0; have g12 := blk_keep hb2 g1; obtain ⟨b0, b1, bf0, bf1, blt⟩ := box2 g02; obtain ⟨l0, l1, l2, lf0, lf1, lf2, llt⟩ := box3 g12))
    go_ret
    exact ⟨rfl, hw2⟩
  have h4 : l.any oddE = true := by
    have := fun h => hbad ⟨h1, h2, h3, (odd_fair h2).1 h⟩
    simpa using this
  have hl64 := (mayL_true h2).2.2.2.2.2.1
  subst h3
  have HO : Hid (∀ W, Below w.heap.size w W → Calls Try.prog 26 #[.slice a l.length cap, .func (.func 27) #[] #[]] W fun e w' => e = .returned (.bool (l.any oddE)) ∧ Below W.heap.size W w') := fun W h => containsE_any a cap l W ((hl.below h).row) (by omega) hwf
  rw [h2] at HL
  rw [h1] at HV
  rw [h4] at HO
  clear h1 h2 h4 hbad
  go_enter Try.func11, Try.ntmps11
  go_wp2_with (first
    | (go_at_call 25; refine (HV.out _).mono ?_; rintro e w1 ⟨rfl, hb1⟩; have hw1 := (below2 w (.cells #[.int .i64 t, .int .i64 v] 23) (.cells #[.int .i64 0, .int .i64 bt, .slice a l.length cap] 26)).trans (hb1.mono (below2 w _ _).size); have g0 := blk_keep hb1 (alloc2_fst w (.cells #[.int .i64 t, .int .i64 v] 23) (.cells #[.int .i64 0, .int .i64 bt, .slice a l.length cap] 26)); have g1 := blk_keep hb1 (alloc2_snd w (.cells #[.int .i64 t, .int .i64 v] 23) (.cells #[.int .i64 0, .int .i64 bt, .slice a l.length cap] 26)); obtain ⟨b0, b1, bf0, bf1, blt⟩ := box2 g0; obtain ⟨l0, l1, l2, lf0, lf1, lf2, llt⟩ := box3 g1)
    | (go_at_call 24; refine (HL.out _ hw1).mono ?_; rintro e w2 ⟨rfl, hb2⟩; have hw2 := hw1.trans (hb2.mono hw1.size); have g02 := blk_keep hb2 g0; have g12 := blk_keep hb2 g1; obtain ⟨b0, b1, bf0, bf1, blt⟩ := box2 g02; obtain ⟨l0, l1, l2, lf0, lf1, lf2, llt⟩ := box3 g12)
    | (go_at_call 26; refine (HO.out _ hw2).mono ?_; rintro e w3 ⟨rfl, hb3⟩; have hw3 := hw2.trans (hb3.mono hw2.size); have g03 := blk_keep hb3 g02; have g13 := blk_keep hb3 g12; obtain ⟨b0, b1, bf0, bf1, blt⟩ := box2 g03; obtain ⟨l0, l1, l2, lf0, lf1, lf2, llt⟩ := box3 g13))
  go_ret
  exact ⟨rfl, hw3⟩
end Go.Proofs.Ytnbljcbfnplbaaa

/-
  The plain laws of a disk: what was synced stays, what was saved is saved again without a byte more, what a crash may leave.
-/
namespace Go.Proofs.Ytnbljcbfnplbaaa
open Go.RowKit
set_option linter.unusedVariables false
theorem crash_synced {x : Vt} (hx : VtOk x) (hs : x.2.1 = x.1.length) (k : Int) : crashV x k = x := by
  have hn : crashN x k = x.1.length := by
    unfold crashN
    rw [hs, show (x.1.length : Int) - (x.1.length : Int) + 1 = 1 by omega, Int.emod_one]
    simp
  unfold crashV
  rw [hn, List.take_length, hx.whole]
  simp only [List.take_length]
  rw [← hs]
theorem commonN_self : ∀ (l : List En), commonN l l = l.length
  | [] => rfl
  | e :: l => by unfold commonN; rw [if_pos rfl, commonN_self l, List.length_cons]
theorem saveB_self (t v : Int) (l : List En) : saveB (t, v, l) t v l = [] := by
  unfold saveB
  simp only [commonN_self, and_self, if_true, Nat.lt_irrefl, if_false, List.drop_length, List.nil_append]
  rfl
theorem save_again {x : Vt} {t v b bt : Int} {l : List En} (h : saveE x t v b bt l = 0) : saveE (saveV x t v b bt l) t v b bt l = 0 ∧ saveV (saveV x t v b bt l) t v b bt l = saveV x t v b bt l := by
  obtain ⟨h1, h2, h3, h4, h5, h6, h7⟩ := saveE_zero h
  have hv := saveV_eq h
  have h0 : saveE (saveV x t v b bt l) t v b bt l = 0 := by
    rw [saveE_ok ⟨h1, h2, h3, h6⟩, hv]
    simp only [saveB_self, List.append_nil]
    rw [if_neg (by omega)]
  refine ⟨h0, ?_⟩
  rw [saveV_eq h0, hv]
  simp only [saveB_self, List.append_nil]
theorem saveV_le {x : Vt} {t v b bt : Int} {l : List En} (h : x.1.length ≤ 65536) : (saveV x t v b bt l).1.length ≤ 65536 := by
  by_cases he : saveE x t v b bt l = 0
  · rw [saveV_eq he]; exact (saveE_zero he).2.2.2.2.2.2
  · rw [saveV_no he]; exact h
theorem crashV_le {x : Vt} {k : Int} (h : x.1.length ≤ 65536) : (crashV x k).1.length ≤ 65536 := by
  unfold crashV; simp only [List.length_take]; omega
/-- Behind a crash of what was saved and not synced. -/
theorem crash_between {x : Vt} (hx : VtOk x) (hs : x.2.1 = x.1.length) {t v b bt : Int} {l : List En} (h : saveE x t v b bt l = 0) (k : Int) : Between x.2.2 t v l (crashV (saveV x t v b bt l) k).2.2 := by
  have ok := save_ok hx h
  have hk := saveV_ok hx t v b bt l
  have hn := crashN_le hk.sync k
  rw [saveV_eq h] at hn ⊢
  simp only at hn
  unfold crashV
  simp only
  generalize crashN (x.1 ++ saveB x.2.2 t v l, x.2.1, (t, v, l)) k = m at hn ⊢
  rw [List.take_append, List.take_of_length_le (show x.1.length ≤ m by omega)]
  unfold readV
  rw [readS_append _ x.1 _ st0 (Nat.le_refl _) (by have := hx.whole; unfold readV at this; rw [this])]
  have hw := hx.whole
  unfold readV at hw
  simp only [hw]
  exact save_torn ok (List.take_append_drop (m - x.1.length) _).symm
theorem vt0_save {t v b bt : Int} {l : List En} (h : saveE vt0 t v b bt l ≠ 0) : saveV vt0 t v b bt l = vt0 := saveV_no h
/-- What is held has at most 64 entries. -/
theorem held_le {x : Vt} (hx : VtOk x) : x.2.2.2.2.length ≤ 64 := by
  have := (mayL_true hx.held.2).2.2.2.2.2.1
  omega
/-! ### What is on a disk that was saved once, read in part -/
theorem between_part {t v : Int} {l : List En} {s : St} (h : Between st0 t v l s) : ∃ k, s.2.2 = l.take k := by
  rcases h.2 with ⟨k, _, hk⟩ | ⟨k, _, hk⟩
  · exact ⟨0, by rw [hk]; simp [st0]⟩
  · exact ⟨k, hk⟩
theorem save_part {t v b bt : Int} {l : List En} (h : saveE vt0 t v b bt l = 0) (cut : Nat) : ∃ k, (readV ((saveV vt0 t v b bt l).1.take cut)).1.2.2 = l.take k := by
  have ok := save_ok vt0_ok h
  rw [saveV_eq h]
  show ∃ k, (readV (([] ++ saveB st0 t v l).take cut)).1.2.2 = l.take k
  rw [List.nil_append]
  exact between_part (save_torn (h := st0) ok (X := (saveB st0 t v l).take cut) (Y := (saveB st0 t v l).drop cut) (List.take_append_drop _ _).symm)
end Go.Proofs.Ytnbljcbfnplbaaa
