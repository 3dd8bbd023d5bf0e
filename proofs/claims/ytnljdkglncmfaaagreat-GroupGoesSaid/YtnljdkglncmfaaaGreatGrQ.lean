/-
  Items among the arguments; how much is on its way.
-/
import Derived.Test.YtnljdkglncmfaaaGreatGrJ
namespace Go.Proofs.YtnljdkglncmfaaaGreat
open Go.RowKit
section
open Go.ChangeShapes Go.WideShapes Go.Deep Go.Joins
set_option linter.unusedVariables false
abbrev It := Int × Int × Int × Int
def itC (m : It) : List Value := [.int .i64 m.1, .int .i64 m.2.1, .int .i64 m.2.2.1, .int .i64 m.2.2.2]
/-- Items that came in. -/
structure ItemsIn (w : World) (a : Option Addr) (cap : Nat) (ms : List It) : Prop where
  at_ : ∀ i m, ms[i]? = some m → ∃ b off, a = some ⟨b, off, none⟩ ∧ b < w.heap.size ∧ ∀ j u, (itC m)[j]? = some u → w.cell? ⟨b, off + (i * 4 + j), none⟩ = some u
  cap : ms.length ≤ cap
  none_ : a = none → ms.length = 0
  max : ms.length ≤ maxLen
theorem ItemsIn.below {w w' : World} {a : Option Addr} {cap : Nat} {ms : List It} (h : ItemsIn w a cap ms) (hb : Below w.heap.size w w') : ItemsIn w' a cap ms :=
  ⟨fun i m hi => by
    obtain ⟨b, off, h1, h2, h3⟩ := h.at_ i m hi
    exact ⟨b, off, h1, Nat.lt_of_lt_of_le h2 hb.size, fun j u hj => ((bcell hb).1 _ _ h2).trans (h3 j u hj)⟩, h.cap, h.none_, h.max⟩
theorem item_cells {w : World} {a : Option Addr} {cap : Nat} {ms : List It} (h : ItemsIn w a cap ms) {k : Nat} (hk : k < ms.length) :
    ∃ b off, a = some ⟨b, off, none⟩ ∧ b < w.heap.size ∧ w.cell? ⟨b, off + k * 4, none⟩ = some (.int .i64 (ms[k]).1) ∧ w.cell? ⟨b, off + k * 4 + 1, none⟩ = some (.int .i64 (ms[k]).2.1) ∧ w.cell? ⟨b, off + k * 4 + 2, none⟩ = some (.int .i64 (ms[k]).2.2.1) ∧ w.cell? ⟨b, off + k * 4 + 3, none⟩ = some (.int .i64 (ms[k]).2.2.2) := by
  obtain ⟨b, off, h1, h2, h3⟩ := h.at_ k _ (List.getElem?_eq_getElem hk)
  have e : ∀ j, off + k * 4 + j = off + (k * 4 + j) := fun j => by omega
  refine ⟨b, off, h1, h2, h3 0 _ rfl, ?_, ?_, ?_⟩
  · rw [e 1]; exact h3 1 _ rfl
  · rw [e 2]; exact h3 2 _ rfl
  · rw [e 3]; exact h3 3 _ rfl
section
variable {H : Type} {enc : TypeId × Value → H} {w : World}
theorem cells_item : Tryz.prog.cellsOf 31 = 4 := by kernel_rfl
theorem cells_intI : Tryz.prog.cellsOf 3 = 1 := by kernel_rfl
theorem int_cellI {n : Nat} {cs : List Value} {c : Value} {xs : List (DataW H × List MemPlace)} (f : Field) {i o : Nat} (h : DataW.trod enc Tryz.prog w 0 (fun _ => true) true n f.type ((cs.drop f.offset).take (Tryz.prog.cellsOf f.type)) = xs[i]?) (hi : i < xs.length) (ht : f.type = 3) (ho : f.offset = o) (hc : cs[o]? = some c) : ∃ k, c = .int .i64 k ∧ (Lit.int .i64 k).wf = true := by
  obtain ⟨hol, hoe⟩ := List.getElem?_eq_some_iff.1 hc
  rw [ht, ho, cells_intI, List.getElem?_eq_getElem hi, List.drop_eq_getElem_cons hol, hoe] at h
  obtain ⟨k, h1, _, h2⟩ := DataW.trod_int Tryz.underlying3 h
  simp at h1
  exact ⟨k, h1, h2⟩
theorem list4 {cs : List Value} (h : cs.length = 4) : ∃ c0 c1 c2 c3, cs = [c0, c1, c2, c3] := by
  match cs, h with
  | [c0, c1, c2, c3], _ => exact ⟨c0, c1, c2, c3, rfl⟩
set_option maxRecDepth 100000 in
theorem open_item {fuel : Nat} {cs : List Value} {y : DataW H × List MemPlace} (h : DataW.trod enc Tryz.prog w 0 (fun _ => true) true fuel 31 cs = some y) : ∃ m : It, cs = itC m := by
  obtain ⟨xs, n, _, _, hl, hx, hf⟩ := DataW.trod_struct Tryz.underlying31 h
  rw [cells_item] at hl
  obtain ⟨c0, c1, c2, c3, rfl⟩ := list4 hl
  obtain ⟨k0, rfl, _⟩ := int_cellI _ (i := 0) (c := c0) (hf 0 _ rfl) (by rw [hx]; decide) rfl rfl rfl
  obtain ⟨k1, rfl, _⟩ := int_cellI _ (i := 1) (c := c1) (hf 1 _ rfl) (by rw [hx]; decide) rfl rfl rfl
  obtain ⟨k2, rfl, _⟩ := int_cellI _ (i := 2) (c := c2) (hf 2 _ rfl) (by rw [hx]; decide) rfl rfl rfl
  obtain ⟨k3, rfl, _⟩ := int_cellI _ (i := 3) (c := c3) (hf 3 _ rfl) (by rw [hx]; decide) rfl rfl rfl
  exact ⟨(k0, k1, k2, k3), rfl⟩
set_option maxRecDepth 100000 in
theorem open_item_arg {r : Reach} {b0 : Nat} {v : Value} {d : DataW H} {p : List MemPlace} (hv : Value.okWide Tryz.prog w r b0 31 v) (h : DataW.Trod enc Tryz.prog w 0 (fun _ => true) true 31 v d p) :
    ∃ k a b c, v = itV k a b c ∧ True := by
  obtain ⟨cs, rfl, _⟩ := okWide_struct Tryz.underlying31 hv
  obtain ⟨fuel, hf⟩ := h
  obtain ⟨m, h1⟩ := open_item (show DataW.trod enc Tryz.prog w 0 (fun _ => true) true fuel 31 cs.toList = some (d, p) by simpa [Value.cells] using hf)
  refine ⟨m.1, m.2.1, m.2.2.1, m.2.2.2, ?_, trivial⟩
  obtain ⟨cs⟩ := cs
  simp at h1
  subst h1
  rfl
set_option maxRecDepth 100000 in
theorem open_items_arg {r : Reach} {b0 : Nat} {v : Value} {d : DataW H} {p : List MemPlace} (hv : Value.okWide Tryz.prog w r b0 22 v) (h : DataW.Trod enc Tryz.prog w 0 (fun _ => true) true 22 v d p) :
    ∃ a cap ms, v = .slice a ms.length cap ∧ ItemsIn w a cap ms := by
  obtain ⟨a, l, c, rfl⟩ := okWide_slice Tryz.underlying22 hv
  obtain ⟨fuel, hf⟩ := h
  rcases open_slice Tryz.underlying22 (show DataW.trod enc Tryz.prog w 0 (fun _ => true) true fuel 22 [.slice a l c] = some (d, p) by simpa [Value.cells] using hf) with ⟨h1, _⟩ | ⟨a', len, cap, m, n, D, Pl, hcs, hb, hl, hm, hmm, hx, hi⟩
  · simp at h1
    obtain ⟨rfl, rfl, rfl⟩ := h1
    exact ⟨none, 0, [], rfl, ⟨fun i m h => by simp at h, Nat.le_refl _, fun _ => rfl, Nat.zero_le _⟩⟩
  · simp at hcs
    obtain ⟨rfl, rfl, rfl⟩ := hcs
    obtain ⟨ms, hel, hes⟩ := list_choose (R := fun i (m : It) => ∀ j u, (itC m)[j]? = some u → w.cell? (a'.add (i * 4 + j)) = some u) l fun i hil => by
      obtain ⟨cs', hc, ht⟩ := hi i (by rw [hmm]; simp; omega)
      rw [cells_item] at hc
      obtain ⟨m, rfl⟩ := open_item ht
      obtain ⟨_, _, hat⟩ := World.cells?_some hc
      refine ⟨m, fun j u hj => ?_⟩
      have hj7 : j < 4 := by
        rcases Nat.lt_or_ge j 4 with h | h
        · exact h
        · rw [List.getElem?_eq_none (by exact h)] at hj; cases hj
      rw [← Go.Deep.add_add, hat j hj7]
      exact hj
    subst hel
    refine ⟨some a', c, ms, rfl, ⟨fun i m him => ?_, hl, (fun h => by cases h), Nat.le_trans hl hm⟩⟩
    have h1 := hes i m him
    obtain ⟨b, off, spot⟩ := a'
    have h0 := h1 0 _ rfl
    have hspot : spot = none := by
      have hlt0 : 0 < ms.length := Nat.lt_of_le_of_lt (Nat.zero_le i) (List.getElem?_eq_some_iff.1 him).1
      have z1 := hes 0 _ (List.getElem?_eq_getElem hlt0)
      simpa [Addr.add] using World.cell?_spot (z1 0 _ rfl)
    subst hspot
    have hadd : ∀ j, (⟨b, off, none⟩ : Addr).add j = ⟨b, off + j, none⟩ := fun j => by unfold Addr.add; split <;> simp_all
    rw [hadd] at h0
    exact ⟨b, off, rfl, block_lt_of_cell h0, fun j u hj => by have := h1 j u hj; rwa [hadd] at this⟩
end
end
/-! ### How much is on its way -/
theorem acts_net {g : Gr} {i : Int} {m : Mb} {said : List Ms} : (g.acts i m said).net.length ≤ g.net.length + said.length := by
  unfold Gr.acts
  split
  · show (g.net ++ said).length ≤ _
    rw [List.length_append]
    exact Nat.le_refl _
  · exact Nat.le_add_right _ _
theorem does_net {g : Gr} (h : GrOk g) (k a b c : Int) : (g.does k a b c).1.net.length ≤ g.net.length + 16 := by
  unfold Gr.does
  split
  · exact Nat.le_add_right _ _
  rename_i ht
  have ht : g.there k a = 0 := by
    by_cases q : g.there k a = 0
    · exact q
    · exact (ht q).elim
  split
  · obtain ⟨h1, h2⟩ := GrOk.there_member ht (by omega)
    exact Nat.le_trans acts_net (Nat.add_le_add_left (timeout_le (h.at_ h1 h2).1.mb) _)
  split
  · obtain ⟨h1, h2⟩ := GrOk.there_member ht (by omega)
    exact Nat.le_trans acts_net (Nat.add_le_add_left (beat_le (h.at_ h1 h2).1.mb) _)
  split
  · obtain ⟨h1, h2⟩ := GrOk.there_member ht (by omega)
    unfold Gr.propose
    split
    · exact Nat.le_add_right _ _
    · split
      · exact Nat.le_trans acts_net (Nat.add_le_add_left (propose_le (h.at_ h1 h2).1.mb _) _)
      · exact Nat.le_add_right _ _
  have het : ∀ j, (g.take j).net.length ≤ g.net.length := fun j => List.length_eraseIdx_le ..
  split
  · obtain ⟨h1, h2⟩ := GrOk.there_msg ht (by omega)
    have hm := h.msg h2
    have hg := (h.take a.toNat)
    have := het a.toNat
    have hx := acts_net (g := g.take a.toNat) (i := (g.msg a.toNat).dst) (m := (((g.take a.toNat).at_ (g.msg a.toNat).dst).1.hear (g.msg a.toNat)).1) (said := (((g.take a.toNat).at_ (g.msg a.toNat).dst).1.hear (g.msg a.toNat)).2)
    have hle := hear_le (hg.at_ (i := (g.msg a.toNat).dst) hm.dst.1 hm.dst.2).1.mb (g.msg a.toNat)
    show ((g.take a.toNat).acts _ _ _).net.length ≤ _
    omega
  split
  · exact Nat.le_trans (het _) (Nat.le_add_right _ _)
  split
  · show (g.net ++ [_]).length ≤ _
    rw [List.length_append]
    simp
  split
  · exact Nat.le_add_right _ _
  · exact Nat.le_trans (het _) (Nat.le_add_right _ _)
theorem does_len {g : Gr} (k a b c : Int) : (g.does k a b c).1.ms.length = g.ms.length := by
  unfold Gr.does Gr.propose Gr.hears Gr.torn Gr.crash Gr.anew
  repeat' split
  all_goals first
    | rfl
    | exact Gr.acts_len _ _ _ _
    | exact Gr.set_len _ _ _
    | (simp only [Gr.acts_len, Gr.set_len]; rfl)
/-- An item is done. -/
abbrev Gr.item (g : Gr) (m : It) : Gr := (g.does m.1 m.2.1 m.2.2.1 m.2.2.2).1
end Go.Proofs.YtnljdkglncmfaaaGreat
