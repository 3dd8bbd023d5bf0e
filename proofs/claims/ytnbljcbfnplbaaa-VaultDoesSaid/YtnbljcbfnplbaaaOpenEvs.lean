/-
  What happens to a disk, among the arguments.
-/
import Derived.Test.YtnbljcbfnplbaaaOpenLogW
namespace Go.Proofs.Ytnbljcbfnplbaaa
open Go.RowKit
open Go.ChangeShapes Go.WideShapes Go.Deep Go.Joins
set_option linter.unusedVariables false
/-- What happens to a disk: its kind, a ballot, a log, a number. -/
abbrev EvT := Int × Int × Int × Int × Int × List En × Int
def evC (e : EvT) (a : Option Addr) (cap : Nat) : List Value := [.int .i64 e.1, .int .i64 e.2.1, .int .i64 e.2.2.1, .int .i64 e.2.2.2.1, .int .i64 e.2.2.2.2.1, .slice a e.2.2.2.2.2.1.length cap, .int .i64 e.2.2.2.2.2.2]
section
variable {H : Type} {enc : TypeId × Value → H} {w : World}
theorem cellsW_ballot : Try.prog.cellsOf 23 = 2 := by kernel_rfl
theorem cellsW_log : Try.prog.cellsOf 26 = 3 := by kernel_rfl
theorem cellsW_entries : Try.prog.cellsOf 24 = 1 := by kernel_rfl
theorem cellsW_ev : Try.prog.cellsOf 52 = 7 := by kernel_rfl
theorem openW_bal {fuel : Nat} {cs : List Value} {y : DataW H × List MemPlace} (h : DataW.trod enc Try.prog w 0 (fun _ => true) true fuel 23 cs = some y) : ∃ t v, cs = [.int .i64 t, .int .i64 v] := by
  obtain ⟨xs, n, _, _, hl, hx, hf⟩ := DataW.trod_struct Try.underlying23 h
  rw [cellsW_ballot] at hl
  obtain ⟨c0, c1, rfl⟩ := listW2 hl
  obtain ⟨k0, rfl, _⟩ := intW_cell _ (i := 0) (c := c0) (hf 0 _ rfl) (by rw [hx]; decide) rfl rfl rfl
  obtain ⟨k1, rfl, _⟩ := intW_cell _ (i := 1) (c := c1) (hf 1 _ rfl) (by rw [hx]; decide) rfl rfl rfl
  exact ⟨k0, k1, rfl⟩
theorem openW_lg {fuel : Nat} {cs : List Value} {y : DataW H × List MemPlace} (h : DataW.trod enc Try.prog w 0 (fun _ => true) true fuel 26 cs = some y) :
    ∃ b t a cap es, cs = [.int .i64 b, .int .i64 t, .slice a (es : List En).length cap] ∧ LogIn w a cap es ∧ ∀ e ∈ es, EnWf e := by
  obtain ⟨xs, n, _, _, hl, hx, hf⟩ := DataW.trod_struct Try.underlying26 h
  rw [cellsW_log] at hl
  obtain ⟨c0, c1, c2, rfl⟩ := listW3 hl
  obtain ⟨k0, rfl, _⟩ := intW_cell _ (i := 0) (c := c0) (hf 0 _ rfl) (by rw [hx]; decide) rfl rfl rfl
  obtain ⟨k1, rfl, _⟩ := intW_cell _ (i := 1) (c := c1) (hf 1 _ rfl) (by rw [hx]; decide) rfl rfl rfl
  have h2 : DataW.trod enc Try.prog w 0 (fun _ => true) true n 24 (([Value.int .i64 k0, Value.int .i64 k1, c2].drop 2).take (Try.prog.cellsOf 24)) = xs[2]? := hf 2 _ rfl
  rw [List.getElem?_eq_getElem (show 2 < xs.length by rw [hx]; decide), cellsW_entries] at h2
  obtain ⟨a, cap, es, rfl, hle, hw⟩ := openW_entries_cells h2
  exact ⟨k0, k1, a, cap, es, rfl, hle, hw⟩
set_option maxRecDepth 100000 in
theorem openW_ev {fuel : Nat} {cs : List Value} {y : DataW H × List MemPlace} (h : DataW.trod enc Try.prog w 0 (fun _ => true) true fuel 52 cs = some y) :
    ∃ (e : EvT) (a : Option Addr) (cap : Nat), cs = evC e a cap ∧ LogIn w a cap e.2.2.2.2.2.1 ∧ ∀ x ∈ e.2.2.2.2.2.1, EnWf x := by
  obtain ⟨xs, n, _, _, hl, hx, hf⟩ := DataW.trod_struct Try.underlying52 h
  rw [cellsW_ev] at hl
  obtain ⟨c0, c1, c2, c3, c4, c5, c6, rfl⟩ := listW7 hl
  obtain ⟨k0, rfl, _⟩ := intW_cell _ (i := 0) (c := c0) (hf 0 _ rfl) (by rw [hx]; decide) rfl rfl rfl
  obtain ⟨k6, rfl, _⟩ := intW_cell _ (i := 3) (c := c6) (hf 3 _ rfl) (by rw [hx]; decide) rfl rfl rfl
  have h1 : DataW.trod enc Try.prog w 0 (fun _ => true) true n 23 (([Value.int .i64 k0, c1, c2, c3, c4, c5, Value.int .i64 k6].drop 1).take (Try.prog.cellsOf 23)) = xs[1]? := hf 1 _ rfl
  rw [List.getElem?_eq_getElem (show 1 < xs.length by rw [hx]; decide), cellsW_ballot] at h1
  obtain ⟨t, v, hb⟩ := openW_bal h1
  simp at hb
  obtain ⟨rfl, rfl⟩ := hb
  have h2 : DataW.trod enc Try.prog w 0 (fun _ => true) true n 26 (([Value.int .i64 k0, Value.int .i64 t, Value.int .i64 v, c3, c4, c5, Value.int .i64 k6].drop 3).take (Try.prog.cellsOf 26)) = xs[2]? := hf 2 _ rfl
  rw [List.getElem?_eq_getElem (show 2 < xs.length by rw [hx]; decide), cellsW_log] at h2
  obtain ⟨b, bt, a, cap, es, he, hle, hw⟩ := openW_lg h2
  simp at he
  obtain ⟨rfl, rfl, rfl⟩ := he
  exact ⟨(k0, t, v, b, bt, es, k6), a, cap, rfl, hle, hw⟩
end
/-- Events that came in. -/
structure EvsIn (w : World) (a : Option Addr) (cap : Nat) (ms : List EvT) : Prop where
  at_ : ∀ i m, ms[i]? = some m → ∃ b off am cm, a = some ⟨b, off, none⟩ ∧ b < w.heap.size ∧ (∀ j u, (evC m am cm)[j]? = some u → w.cell? ⟨b, off + (i * 7 + j), none⟩ = some u) ∧ LogIn w am cm m.2.2.2.2.2.1 ∧ ∀ x ∈ m.2.2.2.2.2.1, EnWf x
  cap : ms.length ≤ cap
  none_ : a = none → ms.length = 0
  max : ms.length ≤ maxLen
section
variable {H : Type} {enc : TypeId × Value → H} {w : World}
set_option maxRecDepth 100000 in
theorem openW_evs_arg {r : Reach} {b0 : Nat} {v : Value} {d : DataW H} {p : List MemPlace} (hv : Value.okWide Try.prog w r b0 43 v) (h : DataW.Trod enc Try.prog w 0 (fun _ => true) true 43 v d p) :
    ∃ a cap ms, v = .slice a ms.length cap ∧ EvsIn w a cap ms := by
  obtain ⟨a, l, c, rfl⟩ := okWide_slice Try.underlying43 hv
  obtain ⟨fuel, hf⟩ := h
  rcases open_slice Try.underlying43 (show DataW.trod enc Try.prog w 0 (fun _ => true) true fuel 43 [.slice a l c] = some (d, p) by simpa [Value.cells] using hf) with ⟨h1, _⟩ | ⟨a', len, cap, m, n, D, Pl, hcs, hb, hl, hm, hmm, hx, hi⟩
  · simp at h1
    obtain ⟨rfl, rfl, rfl⟩ := h1
    exact ⟨none, 0, [], rfl, ⟨fun i m h => by simp at h, Nat.le_refl _, fun _ => rfl, Nat.zero_le _⟩⟩
  · simp at hcs
    obtain ⟨rfl, rfl, rfl⟩ := hcs
    obtain ⟨ms, hel, hes⟩ := list_choose (R := fun i (m : EvT) => ∃ am cm, (∀ j u, (evC m am cm)[j]? = some u → w.cell? (a'.add (i * 7 + j)) = some u) ∧ LogIn w am cm m.2.2.2.2.2.1 ∧ ∀ x ∈ m.2.2.2.2.2.1, EnWf x) l fun i hil => by
      obtain ⟨cs', hc, ht⟩ := hi i (by rw [hmm]; simp; omega)
      rw [cellsW_ev] at hc
      obtain ⟨m, am, cm, rfl, h1, h2⟩ := openW_ev ht
      obtain ⟨_, _, hat⟩ := World.cells?_some hc
      refine ⟨m, am, cm, fun j u hj => ?_, h1, h2⟩
      have hj7 : j < 7 := by
        rcases Nat.lt_or_ge j 7 with h | h
        · exact h
        · rw [List.getElem?_eq_none (by exact h)] at hj; cases hj
      rw [← Go.Deep.add_add, hat j hj7, hj]
    subst hel
    refine ⟨some a', c, ms, rfl, ⟨fun i m him => ?_, hl, (fun h => by cases h), Nat.le_trans hl hm⟩⟩
    obtain ⟨am, cm, h1, h2, h3⟩ := hes i m him
    obtain ⟨b, off, spot⟩ := a'
    have h0 := h1 0 _ rfl
    have hspot : spot = none := by
      have hlt0 : 0 < ms.length := Nat.lt_of_le_of_lt (Nat.zero_le i) (List.getElem?_eq_some_iff.1 him).1
      obtain ⟨_, _, z1, _⟩ := hes 0 _ (List.getElem?_eq_getElem hlt0)
      simpa [Addr.add] using World.cell?_spot (z1 0 _ rfl)
    subst hspot
    have hadd : ∀ j, (⟨b, off, none⟩ : Addr).add j = ⟨b, off + j, none⟩ := fun j => by unfold Addr.add; split <;> simp_all
    rw [hadd] at h0
    exact ⟨b, off, am, cm, rfl, block_lt_of_cell h0, fun j u hj => by have := h1 j u hj; rwa [hadd] at this, h2, h3⟩
end
end Go.Proofs.Ytnbljcbfnplbaaa
