/-
  Ballots, logs and what happens to a disk among the arguments; each number of an entry is one of 64 bits.
-/
import Derived.Test.YtnbljcbfnplbaaaVaultF
import Derived.Test.YtnbljcbfnplbaaaBE
import Derived.Test.YtnbljcbfnplbaaaBA
namespace Go.Proofs.Ytnbljcbfnplbaaa
open Go.RowKit
open Go.ChangeShapes Go.WideShapes Go.Deep Go.Joins
set_option linter.unusedVariables false
section
variable {H : Type} {enc : TypeId × Value → H} {w : World}
theorem cellsW_int : Try.prog.cellsOf 3 = 1 := by kernel_rfl
/-- One cell of a struct that is an int. -/
theorem intW_cell {n : Nat} {cs : List Value} {c : Value} {xs : List (DataW H × List MemPlace)} (f : Field) {i o : Nat} (h : DataW.trod enc Try.prog w 0 (fun _ => true) true n f.type ((cs.drop f.offset).take (Try.prog.cellsOf f.type)) = xs[i]?) (hi : i < xs.length) (ht : f.type = 3) (ho : f.offset = o) (hc : cs[o]? = some c) : ∃ k, c = .int .i64 k ∧ (Lit.int .i64 k).wf = true := by
  obtain ⟨hol, hoe⟩ := List.getElem?_eq_some_iff.1 hc
  rw [ht, ho, cellsW_int, List.getElem?_eq_getElem hi, List.drop_eq_getElem_cons hol, hoe] at h
  obtain ⟨k, h1, _, h2⟩ := DataW.trod_int Try.underlying3 h
  simp at h1
  exact ⟨k, h1, h2⟩
theorem listW6 {cs : List Value} (h : cs.length = 6) : ∃ c0 c1 c2 c3 c4 c5, cs = [c0, c1, c2, c3, c4, c5] := by
  match cs, h with
  | [c0, c1, c2, c3, c4, c5], _ => exact ⟨c0, c1, c2, c3, c4, c5, rfl⟩
theorem listW7 {cs : List Value} (h : cs.length = 7) : ∃ c0 c1 c2 c3 c4 c5 c6, cs = [c0, c1, c2, c3, c4, c5, c6] := by
  match cs, h with
  | [c0, c1, c2, c3, c4, c5, c6], _ => exact ⟨c0, c1, c2, c3, c4, c5, c6, rfl⟩
theorem listW3 {cs : List Value} (h : cs.length = 3) : ∃ c0 c1 c2, cs = [c0, c1, c2] := by
  match cs, h with
  | [c0, c1, c2], _ => exact ⟨c0, c1, c2, rfl⟩
theorem listW2 {cs : List Value} (h : cs.length = 2) : ∃ c0 c1, cs = [c0, c1] := by
  match cs, h with
  | [c0, c1], _ => exact ⟨c0, c1, rfl⟩
theorem cellsW_cmd : Try.prog.cellsOf 39 = 6 := by kernel_rfl
theorem cellsW_entry : Try.prog.cellsOf 41 = 7 := by kernel_rfl
theorem openW_cmd {fuel : Nat} {cs : List Value} {y : DataW H × List MemPlace} (h : DataW.trod enc Try.prog w 0 (fun _ => true) true fuel 39 cs = some y) :
    ∃ m : Int × Int × Int × Int × Int × Int, cs = [.int .i64 m.1, .int .i64 m.2.1, .int .i64 m.2.2.1, .int .i64 m.2.2.2.1, .int .i64 m.2.2.2.2.1, .int .i64 m.2.2.2.2.2] ∧ (Lit.int .i64 m.1).wf = true ∧ (Lit.int .i64 m.2.1).wf = true ∧ (Lit.int .i64 m.2.2.1).wf = true ∧ (Lit.int .i64 m.2.2.2.1).wf = true ∧ (Lit.int .i64 m.2.2.2.2.1).wf = true ∧ (Lit.int .i64 m.2.2.2.2.2).wf = true := by
  obtain ⟨xs, n, _, _, hl, hx, hf⟩ := DataW.trod_struct Try.underlying39 h
  rw [cellsW_cmd] at hl
  obtain ⟨c0, c1, c2, c3, c4, c5, rfl⟩ := listW6 hl
  obtain ⟨k0, rfl, q0⟩ := intW_cell _ (i := 0) (c := c0) (hf 0 _ rfl) (by rw [hx]; decide) rfl rfl rfl
  obtain ⟨k1, rfl, q1⟩ := intW_cell _ (i := 1) (c := c1) (hf 1 _ rfl) (by rw [hx]; decide) rfl rfl rfl
  obtain ⟨k2, rfl, q2⟩ := intW_cell _ (i := 2) (c := c2) (hf 2 _ rfl) (by rw [hx]; decide) rfl rfl rfl
  obtain ⟨k3, rfl, q3⟩ := intW_cell _ (i := 3) (c := c3) (hf 3 _ rfl) (by rw [hx]; decide) rfl rfl rfl
  obtain ⟨k4, rfl, q4⟩ := intW_cell _ (i := 4) (c := c4) (hf 4 _ rfl) (by rw [hx]; decide) rfl rfl rfl
  obtain ⟨k5, rfl, q5⟩ := intW_cell _ (i := 5) (c := c5) (hf 5 _ rfl) (by rw [hx]; decide) rfl rfl rfl
  exact ⟨(k0, k1, k2, k3, k4, k5), rfl, q0, q1, q2, q3, q4, q5⟩
theorem openW_entry {fuel : Nat} {cs : List Value} {y : DataW H × List MemPlace} (h : DataW.trod enc Try.prog w 0 (fun _ => true) true fuel 41 cs = some y) : ∃ e : En, cs = enV e ∧ EnWf e := by
  obtain ⟨xs, n, _, _, hl, hx, hf⟩ := DataW.trod_struct Try.underlying41 h
  rw [cellsW_entry] at hl
  obtain ⟨c0, c1, c2, c3, c4, c5, c6, rfl⟩ := listW7 hl
  obtain ⟨k0, rfl, q0⟩ := intW_cell _ (i := 0) (c := c0) (hf 0 _ rfl) (by rw [hx]; decide) rfl rfl rfl
  have h1 : DataW.trod enc Try.prog w 0 (fun _ => true) true n 39 (([Value.int .i64 k0, c1, c2, c3, c4, c5, c6].drop 1).take (Try.prog.cellsOf 39)) = xs[1]? := hf 1 _ rfl
  rw [List.getElem?_eq_getElem (show 1 < xs.length by rw [hx]; decide), cellsW_cmd] at h1
  obtain ⟨⟨m0, m1, m2, m3, m4, m5⟩, hm, q1, q2, q3, q4, q5, q6⟩ := openW_cmd h1
  simp at hm
  obtain ⟨rfl, rfl, rfl, rfl, rfl, rfl⟩ := hm
  refine ⟨(k0, m0, m1, m2, m3, m4, m5), rfl, ?_⟩
  intro n hn
  unfold numsOf at hn
  simp only [List.mem_cons, List.not_mem_nil, or_false] at hn
  rcases hn with rfl | rfl | rfl | rfl | rfl | rfl | rfl | rfl
  · decide
  all_goals assumption
theorem openW_entries_cells {fuel : Nat} {v : Value} {y : DataW H × List MemPlace} (h : DataW.trod enc Try.prog w 0 (fun _ => true) true fuel 24 [v] = some y) :
    ∃ a cap es, v = .slice a es.length cap ∧ LogIn w a cap es ∧ ∀ e ∈ es, EnWf e := by
  rcases open_slice Try.underlying24 h with ⟨h1, _⟩ | ⟨a, len, cap, m, n, D, Pl, hcs, hb, hl, hm, hmm, hx, hi⟩
  · simp at h1
    subst h1
    exact ⟨none, 0, [], rfl, ⟨RowAt.nil, Nat.le_refl _, fun _ => rfl, Nat.zero_le _⟩, fun e he => by simp at he⟩
  · simp at hcs
    subst hcs
    obtain ⟨es, hel, hes⟩ := list_choose (R := fun i (e : En) => (∀ j u, (enV e)[j]? = some u → w.cell? (a.add (i * 7 + j)) = some u) ∧ EnWf e) len fun i hil => by
      obtain ⟨cs', hc, ht⟩ := hi i (by rw [hmm]; simp; omega)
      rw [cellsW_entry] at hc
      obtain ⟨e, rfl, hw⟩ := openW_entry ht
      obtain ⟨_, _, hat⟩ := World.cells?_some hc
      refine ⟨e, fun j u hj => ?_, hw⟩
      have hj7 : j < 7 := by
        rcases Nat.lt_or_ge j 7 with h | h
        · exact h
        · rw [List.getElem?_eq_none (by rw [enV_length]; exact h)] at hj; cases hj
      rw [← Go.Deep.add_add, hat j hj7, hj]
    subst hel
    refine ⟨some a, cap, es, rfl, ⟨?_, hl, (fun h => by cases h), Nat.le_trans hl hm⟩, fun e he => ?_⟩
    · cases es with
      | nil => exact .inl rfl
      | cons e es =>
        obtain ⟨b, off, spot⟩ := a
        have h0 := (hes 0 e rfl).1 0 _ rfl
        have hspot : spot = none := by simpa [Addr.add] using World.cell?_spot h0
        subst hspot
        have hadd : ∀ j, (⟨b, off, none⟩ : Addr).add j = ⟨b, off + j, none⟩ := fun j => by unfold Addr.add; split <;> simp_all
        refine .inr ⟨b, off, rfl, by rw [hadd] at h0; exact block_lt_of_cell h0, fun i u hu => ?_⟩
        have hil : i < (e :: es).length * 7 := by
          rcases Nat.lt_or_ge i ((e :: es).length * 7) with h | h
          · exact h
          · rw [List.getElem?_eq_none (by rw [ensV_length]; exact h)] at hu; cases hu
        have hk : i / 7 < (e :: es).length := (Nat.div_lt_iff_lt_mul (by decide)).2 hil
        have hd : i / 7 * 7 + i % 7 = i := by omega
        have h1 := ensV_at hk (Nat.mod_lt i (show 0 < 7 by decide))
        rw [hd, hu] at h1
        have h2 := (hes (i / 7) _ (List.getElem?_eq_getElem hk)).1 (i % 7) u h1.symm
        rwa [hd, hadd] at h2
    · obtain ⟨i, hi, rfl⟩ := List.getElem_of_mem he
      exact (hes i _ (List.getElem?_eq_getElem hi)).2
set_option maxRecDepth 100000 in
theorem openW_ballot_arg {r : Reach} {b0 : Nat} {v : Value} {d : DataW H} {p : List MemPlace} (hv : Value.okWide Try.prog w r b0 23 v) (h : DataW.Trod enc Try.prog w 0 (fun _ => true) true 23 v d p) :
    ∃ t u, v = ballotV t u ∧ True := by
  obtain ⟨c0, c1, y0, y1, m, rfl, _, _, hy0, hy1⟩ := open_agg2 Try.underlying23 (by kernel_rfl) (by kernel_rfl) hv h
  obtain ⟨k0, e0, _, _⟩ := DataW.trod_int Try.underlying3 hy0
  obtain ⟨k1, e1, _, _⟩ := DataW.trod_int Try.underlying3 hy1
  simp at e0 e1
  subst e0 e1
  exact ⟨k0, k1, rfl, trivial⟩
set_option maxRecDepth 100000 in
theorem openW_log_arg {r : Reach} {b0 : Nat} {v : Value} {d : DataW H} {p : List MemPlace} (hv : Value.okWide Try.prog w r b0 26 v) (h : DataW.Trod enc Try.prog w 0 (fun _ => true) true 26 v d p) :
    ∃ b t a cap es, v = logV b t a es.length cap ∧ LogIn w a cap es ∧ ∀ e ∈ es, EnWf e := by
  obtain ⟨c0, c1, c2, y0, y1, y2, m, rfl, _, _, hy0, hy1, hy2⟩ := open_agg3 Try.underlying26 (by kernel_rfl) (by kernel_rfl) hv h
  obtain ⟨k0, e0, _, _⟩ := DataW.trod_int Try.underlying3 hy0
  obtain ⟨k1, e1, _, _⟩ := DataW.trod_int Try.underlying3 hy1
  simp at e0 e1
  subst e0 e1
  obtain ⟨a, cap, es, rfl, hl⟩ := openW_entries_cells hy2
  exact ⟨k0, k1, a, cap, es, rfl, hl⟩
end
end Go.Proofs.Ytnbljcbfnplbaaa
