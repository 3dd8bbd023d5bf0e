/-
  Ballots, entries, logs and messages among the arguments.
-/
import Derived.Test.YtlejbhgginolgaaVoteA
import Derived.Test.YtlejbhgginolgaaOpenS
namespace Go.Proofs.Ytlejbhgginolgaa
open Go.RowKit
open Go.ChangeShapes Go.WideShapes Go.Deep Go.Joins
section
variable {H : Type} {enc : TypeId × Value → H} {w : World}
set_option maxRecDepth 100000 in
theorem cells_int : Try.prog.cellsOf 3 = 1 := by kernel_rfl
set_option maxRecDepth 100000 in
/-- One cell of a struct that is an int. -/
theorem int_cell {n : Nat} {cs : List Value} {c : Value} {xs : List (DataW H × List MemPlace)} (f : Field) {i o : Nat} (h : DataW.trod enc Try.prog w 0 (fun _ => true) true n f.type ((cs.drop f.offset).take (Try.prog.cellsOf f.type)) = xs[i]?) (hi : i < xs.length) (ht : f.type = 3) (ho : f.offset = o) (hc : cs[o]? = some c) : ∃ k, c = .int .i64 k ∧ (Lit.int .i64 k).wf = true := by
  obtain ⟨hol, hoe⟩ := List.getElem?_eq_some_iff.1 hc
  rw [ht, ho, cells_int, List.getElem?_eq_getElem hi, List.drop_eq_getElem_cons hol, hoe] at h
  obtain ⟨k, h1, _, h2⟩ := DataW.trod_int Try.underlying3 h
  simp at h1
  exact ⟨k, h1, h2⟩
set_option maxRecDepth 100000 in
theorem list6 {cs : List Value} (h : cs.length = 6) : ∃ c0 c1 c2 c3 c4 c5, cs = [c0, c1, c2, c3, c4, c5] := by
  match cs, h with
  | [c0, c1, c2, c3, c4, c5], _ => exact ⟨c0, c1, c2, c3, c4, c5, rfl⟩
set_option maxRecDepth 100000 in
theorem list7 {cs : List Value} (h : cs.length = 7) : ∃ c0 c1 c2 c3 c4 c5 c6, cs = [c0, c1, c2, c3, c4, c5, c6] := by
  match cs, h with
  | [c0, c1, c2, c3, c4, c5, c6], _ => exact ⟨c0, c1, c2, c3, c4, c5, c6, rfl⟩
set_option maxRecDepth 100000 in
theorem cells_cmd : Try.prog.cellsOf 45 = 6 := by kernel_rfl
set_option maxRecDepth 100000 in
theorem cells_entry : Try.prog.cellsOf 47 = 7 := by kernel_rfl
set_option maxRecDepth 100000 in
theorem open_cmd {fuel : Nat} {cs : List Value} {y : DataW H × List MemPlace} (h : DataW.trod enc Try.prog w 0 (fun _ => true) true fuel 45 cs = some y) :
    ∃ m : Cm, cs = [.int .i64 m.1, .int .i64 m.2.1, .int .i64 m.2.2.1, .int .i64 m.2.2.2.1, .int .i64 m.2.2.2.2.1, .int .i64 m.2.2.2.2.2] := by
  obtain ⟨xs, n, _, _, hl, hx, hf⟩ := DataW.trod_struct Try.underlying45 h
  rw [cells_cmd] at hl
  obtain ⟨c0, c1, c2, c3, c4, c5, rfl⟩ := list6 hl
  obtain ⟨k0, rfl, _⟩ := int_cell _ (i := 0) (c := c0) (hf 0 _ rfl) (by rw [hx]; decide) rfl rfl rfl
  obtain ⟨k1, rfl, _⟩ := int_cell _ (i := 1) (c := c1) (hf 1 _ rfl) (by rw [hx]; decide) rfl rfl rfl
  obtain ⟨k2, rfl, _⟩ := int_cell _ (i := 2) (c := c2) (hf 2 _ rfl) (by rw [hx]; decide) rfl rfl rfl
  obtain ⟨k3, rfl, _⟩ := int_cell _ (i := 3) (c := c3) (hf 3 _ rfl) (by rw [hx]; decide) rfl rfl rfl
  obtain ⟨k4, rfl, _⟩ := int_cell _ (i := 4) (c := c4) (hf 4 _ rfl) (by rw [hx]; decide) rfl rfl rfl
  obtain ⟨k5, rfl, _⟩ := int_cell _ (i := 5) (c := c5) (hf 5 _ rfl) (by rw [hx]; decide) rfl rfl rfl
  exact ⟨(k0, k1, k2, k3, k4, k5), rfl⟩
set_option maxRecDepth 100000 in
theorem open_entry {fuel : Nat} {cs : List Value} {y : DataW H × List MemPlace} (h : DataW.trod enc Try.prog w 0 (fun _ => true) true fuel 47 cs = some y) : ∃ e : En, cs = enV e := by
  obtain ⟨xs, n, _, _, hl, hx, hf⟩ := DataW.trod_struct Try.underlying47 h
  rw [cells_entry] at hl
  obtain ⟨c0, c1, c2, c3, c4, c5, c6, rfl⟩ := list7 hl
  obtain ⟨k0, rfl, _⟩ := int_cell _ (i := 0) (c := c0) (hf 0 _ rfl) (by rw [hx]; decide) rfl rfl rfl
  have h1 : DataW.trod enc Try.prog w 0 (fun _ => true) true n 45 (([Value.int .i64 k0, c1, c2, c3, c4, c5, c6].drop 1).take (Try.prog.cellsOf 45)) = xs[1]? := hf 1 _ rfl
  rw [List.getElem?_eq_getElem (show 1 < xs.length by rw [hx]; decide), cells_cmd] at h1
  obtain ⟨m, hm⟩ := open_cmd h1
  simp at hm
  obtain ⟨rfl, rfl, rfl, rfl, rfl, rfl⟩ := hm
  exact ⟨(k0, m), rfl⟩
set_option maxRecDepth 100000 in
theorem open_entries_cells {fuel : Nat} {v : Value} {y : DataW H × List MemPlace} (h : DataW.trod enc Try.prog w 0 (fun _ => true) true fuel 24 [v] = some y) :
    ∃ a cap es, v = .slice a es.length cap ∧ LogIn w a cap es := by
  rcases open_slice Try.underlying24 h with ⟨h1, _⟩ | ⟨a, len, cap, m, n, D, Pl, hcs, hb, hl, hm, hmm, hx, hi⟩
  · simp at h1
    subst h1
    exact ⟨none, 0, [], rfl, LogIn.zero w⟩
  · simp at hcs
    subst hcs
    obtain ⟨es, hel, hes⟩ := list_choose (R := fun i (e : En) => ∀ j u, (enV e)[j]? = some u → w.cell? (a.add (i * 7 + j)) = some u) len fun i hil => by
      obtain ⟨cs', hc, ht⟩ := hi i (by rw [hmm]; simp; omega)
      rw [cells_entry] at hc
      obtain ⟨e, rfl⟩ := open_entry ht
      obtain ⟨_, _, hat⟩ := World.cells?_some hc
      refine ⟨e, fun j u hj => ?_⟩
      have hj7 : j < 7 := by
        rcases Nat.lt_or_ge j 7 with h | h
        · exact h
        · rw [List.getElem?_eq_none (by rw [enV_length]; exact h)] at hj; cases hj
      rw [← Go.Deep.add_add, hat j hj7, hj]
    subst hel
    refine ⟨some a, cap, es, rfl, ⟨?_, hl, (fun h => by cases h), Nat.le_trans hl hm⟩⟩
    cases es with
    | nil => exact .inl rfl
    | cons e es =>
      obtain ⟨b, off, spot⟩ := a
      have h0 := hes 0 e rfl 0 _ rfl
      have hspot : spot = none := by simpa [Addr.add] using World.cell?_spot h0
      subst hspot
      have hadd : ∀ j, (⟨b, off, none⟩ : Addr).add j = ⟨b, off + j, none⟩ := fun j => by unfold Addr.add; split <;> simp_all
      refine .inr ⟨b, off, rfl, by rw [hadd] at h0; exact block_lt_of_cell h0, fun i u hu => ?_⟩
      have hil : i < (e :: es).length * 7 := by
        rcases Nat.lt_or_ge i ((e :: es).length * 7) with h | h
        · exact h
        · rw [List.getElem?_eq_none (by rw [ensV_length]; exact h)] at hu; cases hu
      have hk : i / 7 < (e :: es).length := (Nat.div_lt_iff_lt_mul (by decide)).2 hil
      have hd : i / 7 * 7 + i % 7 = i := by omega
      have h1 := ensV_at hk (Nat.mod_lt i (show 0 < 7 by decide))
      rw [hd, hu] at h1
      have h2 := hes (i / 7) _ (List.getElem?_eq_getElem hk) (i % 7) u h1.symm
      rwa [hd, hadd] at h2
set_option maxRecDepth 100000 in
theorem open_entries_arg {r : Reach} {b0 : Nat} {v : Value} {d : DataW H} {p : List MemPlace} (hv : Value.okWide Try.prog w r b0 24 v) (h : DataW.Trod enc Try.prog w 0 (fun _ => true) true 24 v d p) :
    ∃ a cap es, v = .slice a es.length cap ∧ LogIn w a cap es := by
  obtain ⟨a, l, c, rfl⟩ := okWide_slice Try.underlying24 hv
  obtain ⟨fuel, hf⟩ := h
  exact open_entries_cells (by simpa [Value.cells] using hf)
set_option maxRecDepth 100000 in
theorem open_ballot_arg {r : Reach} {b0 : Nat} {v : Value} {d : DataW H} {p : List MemPlace} (hv : Value.okWide Try.prog w r b0 23 v) (h : DataW.Trod enc Try.prog w 0 (fun _ => true) true 23 v d p) :
    ∃ t u, v = ballotV t u ∧ True := by
  obtain ⟨c0, c1, y0, y1, m, rfl, _, _, hy0, hy1⟩ := open_agg2 Try.underlying23 (by kernel_rfl) (by kernel_rfl) hv h
  obtain ⟨k0, e0, _, _⟩ := DataW.trod_int Try.underlying3 hy0
  obtain ⟨k1, e1, _, _⟩ := DataW.trod_int Try.underlying3 hy1
  simp at e0 e1
  subst e0 e1
  exact ⟨k0, k1, rfl, trivial⟩
set_option maxRecDepth 100000 in
theorem open_log_arg {r : Reach} {b0 : Nat} {v : Value} {d : DataW H} {p : List MemPlace} (hv : Value.okWide Try.prog w r b0 26 v) (h : DataW.Trod enc Try.prog w 0 (fun _ => true) true 26 v d p) :
    ∃ b t a cap es, v = logV b t a es.length cap ∧ LogIn w a cap es := by
  obtain ⟨c0, c1, c2, y0, y1, y2, m, rfl, _, _, hy0, hy1, hy2⟩ := open_agg3 Try.underlying26 (by kernel_rfl) (by kernel_rfl) hv h
  obtain ⟨k0, e0, _, _⟩ := DataW.trod_int Try.underlying3 hy0
  obtain ⟨k1, e1, _, _⟩ := DataW.trod_int Try.underlying3 hy1
  simp at e0 e1
  subst e0 e1
  obtain ⟨a, cap, es, rfl, hl⟩ := open_entries_cells hy2
  exact ⟨k0, k1, a, cap, es, rfl, hl⟩
set_option maxRecDepth 100000 in
theorem cells_msg : Try.prog.cellsOf 37 = 9 := by kernel_rfl
set_option maxRecDepth 100000 in
theorem cells_log : Try.prog.cellsOf 26 = 3 := by kernel_rfl
set_option maxRecDepth 100000 in
theorem cells_bool : Try.prog.cellsOf 4 = 1 := by kernel_rfl
set_option maxRecDepth 100000 in
theorem cells_entries : Try.prog.cellsOf 24 = 1 := by kernel_rfl
set_option maxRecDepth 100000 in
theorem list9 {cs : List Value} (h : cs.length = 9) : ∃ c0 c1 c2 c3 c4 c5 c6 c7 c8, cs = [c0, c1, c2, c3, c4, c5, c6, c7, c8] := by
  match cs, h with
  | [c0, c1, c2, c3, c4, c5, c6, c7, c8], _ => exact ⟨c0, c1, c2, c3, c4, c5, c6, c7, c8, rfl⟩
set_option maxRecDepth 100000 in
theorem list3 {cs : List Value} (h : cs.length = 3) : ∃ c0 c1 c2, cs = [c0, c1, c2] := by
  match cs, h with
  | [c0, c1, c2], _ => exact ⟨c0, c1, c2, rfl⟩
/-- A message's cells. -/
def msgC (m : Mg) (a : Option Addr) (cap : Nat) : List Value := [.int .i64 m.1, .int .i64 m.2.1, .int .i64 m.2.2.1, .int .i64 m.2.2.2.1, .int .i64 m.2.2.2.2.1, .int .i64 m.2.2.2.2.2.1, .int .i64 m.2.2.2.2.2.2.1, .bool m.2.2.2.2.2.2.2.1, .slice a m.2.2.2.2.2.2.2.2.length cap]
/-- Its numbers are numbers of 64 bits. -/
def MgWf (m : Mg) : Prop := (Lit.int .i64 m.1).wf = true ∧ (Lit.int .i64 m.2.1).wf = true ∧ (Lit.int .i64 m.2.2.1).wf = true ∧ (Lit.int .i64 m.2.2.2.1).wf = true ∧ (Lit.int .i64 m.2.2.2.2.1).wf = true ∧ (Lit.int .i64 m.2.2.2.2.2.1).wf = true ∧ (Lit.int .i64 m.2.2.2.2.2.2.1).wf = true
set_option maxRecDepth 100000 in
theorem open_msg {fuel : Nat} {cs : List Value} {y : DataW H × List MemPlace} (h : DataW.trod enc Try.prog w 0 (fun _ => true) true fuel 37 cs = some y) :
    ∃ (m : Mg) (a : Option Addr) (cap : Nat), cs = msgC m a cap ∧ LogIn w a cap m.2.2.2.2.2.2.2.2 ∧ MgWf m := by
  obtain ⟨xs, n, _, _, hl, hx, hf⟩ := DataW.trod_struct Try.underlying37 h
  rw [cells_msg] at hl
  obtain ⟨c0, c1, c2, c3, c4, c5, c6, c7, c8, rfl⟩ := list9 hl
  obtain ⟨k0, rfl, q0⟩ := int_cell _ (i := 0) (c := c0) (hf 0 _ rfl) (by rw [hx]; decide) rfl rfl rfl
  obtain ⟨k1, rfl, q1⟩ := int_cell _ (i := 1) (c := c1) (hf 1 _ rfl) (by rw [hx]; decide) rfl rfl rfl
  obtain ⟨k2, rfl, q2⟩ := int_cell _ (i := 2) (c := c2) (hf 2 _ rfl) (by rw [hx]; decide) rfl rfl rfl
  obtain ⟨k3, rfl, q3⟩ := int_cell _ (i := 3) (c := c3) (hf 3 _ rfl) (by rw [hx]; decide) rfl rfl rfl
  obtain ⟨k4, rfl, q4⟩ := int_cell _ (i := 4) (c := c4) (hf 4 _ rfl) (by rw [hx]; decide) rfl rfl rfl
  obtain ⟨k5, rfl, q5⟩ := int_cell _ (i := 5) (c := c5) (hf 5 _ rfl) (by rw [hx]; decide) rfl rfl rfl
  obtain ⟨k6, rfl, q6⟩ := int_cell _ (i := 6) (c := c6) (hf 6 _ rfl) (by rw [hx]; decide) rfl rfl rfl
  have h7 : DataW.trod enc Try.prog w 0 (fun _ => true) true n 4 (([Value.int .i64 k0, Value.int .i64 k1, Value.int .i64 k2, Value.int .i64 k3, Value.int .i64 k4, Value.int .i64 k5, Value.int .i64 k6, c7, c8].drop 7).take (Try.prog.cellsOf 4)) = xs[7]? := hf 7 _ rfl
  rw [List.getElem?_eq_getElem (show 7 < xs.length by rw [hx]; decide), cells_bool] at h7
  obtain ⟨b, hb, _⟩ := DataW.trod_bool Try.underlying4 h7
  simp at hb
  subst hb
  have h8 : DataW.trod enc Try.prog w 0 (fun _ => true) true n 24 (([Value.int .i64 k0, Value.int .i64 k1, Value.int .i64 k2, Value.int .i64 k3, Value.int .i64 k4, Value.int .i64 k5, Value.int .i64 k6, Value.bool b, c8].drop 8).take (Try.prog.cellsOf 24)) = xs[8]? := hf 8 _ rfl
  rw [List.getElem?_eq_getElem (show 8 < xs.length by rw [hx]; decide), cells_entries] at h8
  obtain ⟨a, cap, es, rfl, hle⟩ := open_entries_cells h8
  exact ⟨(k0, k1, k2, k3, k4, k5, k6, b, es), a, cap, rfl, hle, q0, q1, q2, q3, q4, q5, q6⟩
set_option maxRecDepth 100000 in
theorem open_msg_arg {r : Reach} {b0 : Nat} {v : Value} {d : DataW H} {p : List MemPlace} (hv : Value.okWide Try.prog w r b0 37 v) (h : DataW.Trod enc Try.prog w 0 (fun _ => true) true 37 v d p) :
    ∃ (m : Mg) (a : Option Addr) (cap : Nat), v = msgV m a cap ∧ LogIn w a cap m.2.2.2.2.2.2.2.2 ∧ MgWf m := by
  obtain ⟨cs, rfl, _⟩ := okWide_struct Try.underlying37 hv
  obtain ⟨fuel, hf⟩ := h
  obtain ⟨m, a, cap, h1, h2, h3⟩ := open_msg (show DataW.trod enc Try.prog w 0 (fun _ => true) true fuel 37 cs.toList = some (d, p) by simpa [Value.cells] using hf)
  refine ⟨m, a, cap, ?_, h2, h3⟩
  obtain ⟨cs⟩ := cs
  simp at h1
  subst h1
  rfl
/-- Messages that came in. -/
structure MsgsIn (w : World) (a : Option Addr) (cap : Nat) (ms : List Mg) : Prop where
  at_ : ∀ i m, ms[i]? = some m → ∃ b off am cm, a = some ⟨b, off, none⟩ ∧ b < w.heap.size ∧ (∀ j u, (msgC m am cm)[j]? = some u → w.cell? ⟨b, off + (i * 9 + j), none⟩ = some u) ∧ LogIn w am cm m.2.2.2.2.2.2.2.2 ∧ MgWf m
  cap : ms.length ≤ cap
  none_ : a = none → ms.length = 0
  max : ms.length ≤ maxLen
set_option maxRecDepth 100000 in
theorem MsgsIn.below {w' : World} {a : Option Addr} {cap : Nat} {ms : List Mg} (h : MsgsIn w a cap ms) (hb : Below w.heap.size w w') : MsgsIn w' a cap ms :=
  ⟨fun i m hi => by
    obtain ⟨b, off, am, cm, h1, h2, h3, h4, h5⟩ := h.at_ i m hi
    exact ⟨b, off, am, cm, h1, Nat.lt_of_lt_of_le h2 hb.size, fun j u hj => ((bcell hb).1 _ _ h2).trans (h3 j u hj), h4.below hb, h5⟩, h.cap, h.none_, h.max⟩
set_option maxRecDepth 100000 in
theorem addr_add (b off j : Nat) : (⟨b, off, none⟩ : Addr).add j = ⟨b, off + j, none⟩ := by unfold Addr.add; split <;> simp_all
set_option maxRecDepth 100000 in
theorem open_msgs_arg {r : Reach} {b0 : Nat} {v : Value} {d : DataW H} {p : List MemPlace} (hv : Value.okWide Try.prog w r b0 32 v) (h : DataW.Trod enc Try.prog w 0 (fun _ => true) true 32 v d p) :
    ∃ a cap ms, v = .slice a ms.length cap ∧ MsgsIn w a cap ms := by
  obtain ⟨a, l, c, rfl⟩ := okWide_slice Try.underlying32 hv
  obtain ⟨fuel, hf⟩ := h
  rcases open_slice Try.underlying32 (show DataW.trod enc Try.prog w 0 (fun _ => true) true fuel 32 [.slice a l c] = some (d, p) by simpa [Value.cells] using hf) with ⟨h1, _⟩ | ⟨a', len, cap, m, n, D, Pl, hcs, hb, hl, hm, hmm, hx, hi⟩
  · simp at h1
    obtain ⟨rfl, rfl, rfl⟩ := h1
    exact ⟨none, 0, [], rfl, ⟨fun i m h => by simp at h, Nat.le_refl _, fun _ => rfl, Nat.zero_le _⟩⟩
  · simp at hcs
    obtain ⟨rfl, rfl, rfl⟩ := hcs
    obtain ⟨ms, hel, hes⟩ := list_choose (R := fun i (m : Mg) => ∃ am cm, (∀ j u, (msgC m am cm)[j]? = some u → w.cell? (a'.add (i * 9 + j)) = some u) ∧ LogIn w am cm m.2.2.2.2.2.2.2.2 ∧ MgWf m) l fun i hil => by
      obtain ⟨cs', hc, ht⟩ := hi i (by rw [hmm]; simp; omega)
      rw [cells_msg] at hc
      obtain ⟨m, am, cm, rfl, h1, h2⟩ := open_msg ht
      obtain ⟨_, _, hat⟩ := World.cells?_some hc
      refine ⟨m, am, cm, fun j u hj => ?_, h1, h2⟩
      have hj9 : j < 9 := by
        rcases Nat.lt_or_ge j 9 with h | h
        · exact h
        · rw [List.getElem?_eq_none (by exact h)] at hj; cases hj
      rw [← Go.Deep.add_add, hat j hj9, hj]
    subst hel
    refine ⟨some a', c, ms, rfl, ⟨fun i m him => ?_, hl, (fun h => by cases h), Nat.le_trans hl hm⟩⟩
    obtain ⟨am, cm, h1, h2, h3⟩ := hes i m him
    obtain ⟨b, off, spot⟩ := a'
    have h0 := h1 0 _ rfl
    have hlt0 : 0 < ms.length := Nat.lt_of_le_of_lt (Nat.zero_le i) (List.getElem?_eq_some_iff.1 him).1
    obtain ⟨_, _, z1, _⟩ := hes 0 _ (List.getElem?_eq_getElem hlt0)
    have hspot : spot = none := by simpa [Addr.add] using World.cell?_spot (z1 0 _ rfl)
    subst hspot
    rw [addr_add] at h0
    exact ⟨b, off, am, cm, rfl, block_lt_of_cell h0, fun j u hj => by have := h1 j u hj; rwa [addr_add] at this, h2, h3⟩
/-- A log among others. -/
abbrev Lg := Int × Int × List En
def lgC (l : Lg) (a : Option Addr) (cap : Nat) : List Value := [.int .i64 l.1, .int .i64 l.2.1, .slice a l.2.2.length cap]
structure LogsIn (w : World) (a : Option Addr) (cap : Nat) (ls : List Lg) : Prop where
  at_ : ∀ i l, ls[i]? = some l → ∃ b off am cm, a = some ⟨b, off, none⟩ ∧ b < w.heap.size ∧ (∀ j u, (lgC l am cm)[j]? = some u → w.cell? ⟨b, off + (i * 3 + j), none⟩ = some u) ∧ LogIn w am cm l.2.2
  cap : ls.length ≤ cap
  none_ : a = none → ls.length = 0
  max : ls.length ≤ maxLen
set_option maxRecDepth 100000 in
theorem LogsIn.below {w' : World} {a : Option Addr} {cap : Nat} {ls : List Lg} (h : LogsIn w a cap ls) (hb : Below w.heap.size w w') : LogsIn w' a cap ls :=
  ⟨fun i m hi => by
    obtain ⟨b, off, am, cm, h1, h2, h3, h4⟩ := h.at_ i m hi
    exact ⟨b, off, am, cm, h1, Nat.lt_of_lt_of_le h2 hb.size, fun j u hj => ((bcell hb).1 _ _ h2).trans (h3 j u hj), h4.below hb⟩, h.cap, h.none_, h.max⟩
set_option maxRecDepth 100000 in
theorem open_lg {fuel : Nat} {cs : List Value} {y : DataW H × List MemPlace} (h : DataW.trod enc Try.prog w 0 (fun _ => true) true fuel 26 cs = some y) :
    ∃ (l : Lg) (a : Option Addr) (cap : Nat), cs = lgC l a cap ∧ LogIn w a cap l.2.2 := by
  obtain ⟨xs, n, _, _, hl, hx, hf⟩ := DataW.trod_struct Try.underlying26 h
  rw [cells_log] at hl
  obtain ⟨c0, c1, c2, rfl⟩ := list3 hl
  obtain ⟨k0, rfl, _⟩ := int_cell _ (i := 0) (c := c0) (hf 0 _ rfl) (by rw [hx]; decide) rfl rfl rfl
  obtain ⟨k1, rfl, _⟩ := int_cell _ (i := 1) (c := c1) (hf 1 _ rfl) (by rw [hx]; decide) rfl rfl rfl
  have h2 : DataW.trod enc Try.prog w 0 (fun _ => true) true n 24 (([Value.int .i64 k0, Value.int .i64 k1, c2].drop 2).take (Try.prog.cellsOf 24)) = xs[2]? := hf 2 _ rfl
  rw [List.getElem?_eq_getElem (show 2 < xs.length by rw [hx]; decide), cells_entries] at h2
  obtain ⟨a, cap, es, rfl, hle⟩ := open_entries_cells h2
  exact ⟨(k0, k1, es), a, cap, rfl, hle⟩
end
end Go.Proofs.Ytlejbhgginolgaa
