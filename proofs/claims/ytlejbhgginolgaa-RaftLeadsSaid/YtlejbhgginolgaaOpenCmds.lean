/-
  Commands among the arguments.
-/
import Derived.Test.YtlejbhgginolgaaOpenLogs
import Derived.Test.YtlejbhgginolgaaBoxes
namespace Go.Proofs.Ytlejbhgginolgaa
open Go.RowKit
open Go.ChangeShapes Go.WideShapes Go.Deep Go.Joins
set_option linter.unusedVariables false
def cmC (m : Cm) : List Value := [.int .i64 m.1, .int .i64 m.2.1, .int .i64 m.2.2.1, .int .i64 m.2.2.2.1, .int .i64 m.2.2.2.2.1, .int .i64 m.2.2.2.2.2]
/-- Commands that came in. -/
structure CmdsIn (w : World) (a : Option Addr) (cap : Nat) (ms : List Cm) : Prop where
  at_ : ∀ i m, ms[i]? = some m → ∃ b off, a = some ⟨b, off, none⟩ ∧ b < w.heap.size ∧ ∀ j u, (cmC m)[j]? = some u → w.cell? ⟨b, off + (i * 6 + j), none⟩ = some u
  cap : ms.length ≤ cap
  none_ : a = none → ms.length = 0
  max : ms.length ≤ maxLen
theorem CmdsIn.below {w w' : World} {a : Option Addr} {cap : Nat} {ms : List Cm} (h : CmdsIn w a cap ms) (hb : Below w.heap.size w w') : CmdsIn w' a cap ms :=
  ⟨fun i m hi => by
    obtain ⟨b, off, h1, h2, h3⟩ := h.at_ i m hi
    exact ⟨b, off, h1, Nat.lt_of_lt_of_le h2 hb.size, fun j u hj => ((bcell hb).1 _ _ h2).trans (h3 j u hj)⟩, h.cap, h.none_, h.max⟩
theorem cmd_cells {w : World} {a : Option Addr} {cap : Nat} {ms : List Cm} (h : CmdsIn w a cap ms) {k : Nat} (hk : k < ms.length) :
    ∃ b off, a = some ⟨b, off, none⟩ ∧ b < w.heap.size ∧ w.cell? ⟨b, off + k * 6, none⟩ = some (.int .i64 (ms[k]).1) ∧ w.cell? ⟨b, off + k * 6 + 1, none⟩ = some (.int .i64 (ms[k]).2.1) ∧ w.cell? ⟨b, off + k * 6 + 2, none⟩ = some (.int .i64 (ms[k]).2.2.1) ∧
      w.cell? ⟨b, off + k * 6 + 3, none⟩ = some (.int .i64 (ms[k]).2.2.2.1) ∧ w.cell? ⟨b, off + k * 6 + 4, none⟩ = some (.int .i64 (ms[k]).2.2.2.2.1) ∧ w.cell? ⟨b, off + k * 6 + 5, none⟩ = some (.int .i64 (ms[k]).2.2.2.2.2) := by
  obtain ⟨b, off, h1, h2, h3⟩ := h.at_ k _ (List.getElem?_eq_getElem hk)
  have e : ∀ j, off + k * 6 + j = off + (k * 6 + j) := fun j => by omega
  refine ⟨b, off, h1, h2, h3 0 _ rfl, ?_, ?_, ?_, ?_, ?_⟩
  · rw [e 1]; exact h3 1 _ rfl
  · rw [e 2]; exact h3 2 _ rfl
  · rw [e 3]; exact h3 3 _ rfl
  · rw [e 4]; exact h3 4 _ rfl
  · rw [e 5]; exact h3 5 _ rfl
section
variable {H : Type} {enc : TypeId × Value → H} {w : World}
set_option maxRecDepth 100000 in
theorem open_cmds_arg {r : Reach} {b0 : Nat} {v : Value} {d : DataW H} {p : List MemPlace} (hv : Value.okWide Try.prog w r b0 41 v) (h : DataW.Trod enc Try.prog w 0 (fun _ => true) true 41 v d p) :
    ∃ a cap ms, v = .slice a ms.length cap ∧ CmdsIn w a cap ms := by
  obtain ⟨a, l, c, rfl⟩ := okWide_slice Try.underlying41 hv
  obtain ⟨fuel, hf⟩ := h
  rcases open_slice Try.underlying41 (show DataW.trod enc Try.prog w 0 (fun _ => true) true fuel 41 [.slice a l c] = some (d, p) by simpa [Value.cells] using hf) with ⟨h1, _⟩ | ⟨a', len, cap, m, n, D, Pl, hcs, hb, hl, hm, hmm, hx, hi⟩
  · simp at h1
    obtain ⟨rfl, rfl, rfl⟩ := h1
    exact ⟨none, 0, [], rfl, ⟨fun i m h => by simp at h, Nat.le_refl _, fun _ => rfl, Nat.zero_le _⟩⟩
  · simp at hcs
    obtain ⟨rfl, rfl, rfl⟩ := hcs
    obtain ⟨ms, hel, hes⟩ := list_choose (R := fun i (m : Cm) => ∀ j u, (cmC m)[j]? = some u → w.cell? (a'.add (i * 6 + j)) = some u) l fun i hil => by
      obtain ⟨cs', hc, ht⟩ := hi i (by rw [hmm]; simp; omega)
      rw [cells_cmd] at hc
      obtain ⟨m, rfl⟩ := open_cmd ht
      obtain ⟨_, _, hat⟩ := World.cells?_some hc
      refine ⟨m, fun j u hj => ?_⟩
      have hj7 : j < 6 := by
        rcases Nat.lt_or_ge j 6 with h | h
        · exact h
        · rw [List.getElem?_eq_none (by exact h)] at hj; cases hj
      rw [← Go.Deep.add_add, hat j hj7]
      exact hj
    subst hel
    refine ⟨some a', c, ms, rfl, ⟨fun i m him => ?_, hl, (fun h => by cases h), Nat.le_trans hl hm⟩⟩
    have h1 := hes i m him
    obtain ⟨b, off, spot⟩ := a'
    have h0 := h1 0 _ rfl
    have hspot : spot = none := by
      have hlt0 : 0 < ms.length := Nat.lt_of_le_of_lt (Nat.zero_le i) (List.getElem?_eq_some_iff.1 him).1
      have z1 := hes 0 _ (List.getElem?_eq_getElem hlt0)
      simpa [Addr.add] using World.cell?_spot (z1 0 _ rfl)
    subst hspot
    have hadd : ∀ j, (⟨b, off, none⟩ : Addr).add j = ⟨b, off + j, none⟩ := fun j => by unfold Addr.add; split <;> simp_all
    rw [hadd] at h0
    exact ⟨b, off, rfl, block_lt_of_cell h0, fun j u hj => by have := h1 j u hj; rwa [hadd] at this⟩
end
end Go.Proofs.Ytlejbhgginolgaa
