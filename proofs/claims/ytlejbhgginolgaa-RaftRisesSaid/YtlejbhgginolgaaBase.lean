/-
  Small helpers that belong to no layer: a scope with one label, rows of cells that are read, rows of the call's own, append.
-/
import Derived.Test.YtlejbhgginolgaaProg
import Derived.WalkKit
import Derived.Lib.Hide
import Derived.ScopeJumps
import Derived.Deep.WholeRow
import Derived.Deep.AppendLies
import Derived.Maps.AppendAt
import Derived.Lib.SliceRun
import Derived.WalkSpells
import Derived.Deep.Draws
import Derived.WalkSmall
import Derived.Deep.QuietTactic
import Derived.BigQuiet
namespace Go.Proofs.Ytlejbhgginolgaa
open Go.RowKit

/-- A scope whose text runs up to one label and jumps back to it: what holds at the label (J), a measure (μ); the text behind the label is walked once. -/
theorem scope_loop {P : Program} {c R : Code} {Q : Exit → Act → World → Prop} {a : Act} {w : World} (l : Nat) (J : Act → World → Prop) (μ : Act → World → Nat) (hf : findLabel c l = some (.seq .skip R))
    (pass : ∀ a w, J a w → R.wp P (Exit.jump l (fun a' w' => J a' w' ∧ μ a' w' < μ a w) Q) a w)
    (first : (∀ a w, J a w → R.wp P (Exit.jump l J Q) a w) → c.wp P (Exit.jump l J Q) a w) : (Code.scope c).wp P Q a w := by
  have hp : ∀ a w, J a w → R.wp P (Exit.jump l J Q) a w := fun a w h => Code.wp_mono (fun e a' w' q => by
    cases e with
    | goto l' => exact ⟨q.1, q.2.1⟩
    | normal => exact q
    | exit id => exact q
    | ret => exact q
    | panic ch => exact q
    | outgrown => exact q) (pass a w h)
  exact wp_scope_jumps l J μ hf (first hp) fun a w h => wp_seq (wp_skip (pass a w h))

/-- Behind a contract that ends in 'Below': all old cells and marks read as before. -/
theorem bcell {B : Nat} {W w1 : World} (hb : Below B W w1) : (∀ b o, b < B → w1.cell? ⟨b, o, none⟩ = W.cell? ⟨b, o, none⟩) ∧ (∀ b o, b < B → w1.frozen? ⟨b, o, none⟩ = W.frozen? ⟨b, o, none⟩) :=
  ⟨fun b o h => hb.cell (p := ⟨b, o, none⟩) h, fun b o h => hb.frozen (p := ⟨b, o, none⟩) h⟩

theorem ret_int {k : IntKind} {a b : Int} (h : a = b) : Ending.returned (.int k a) = .returned (.int k b) := by rw [h]
theorem ret_bool {a b : Bool} (h : a = b) : Ending.returned (.bool a) = .returned (.bool b) := by rw [h]

/-! ### A row of cells that is read -/
/-- The cells xs lie from address A on (below the heap's end); of no cells nothing is said. -/
def RowAt (w : World) (A : Option Addr) (xs : List Value) : Prop := xs = [] ∨ ∃ b off, A = some ⟨b, off, none⟩ ∧ b < w.heap.size ∧ ∀ i u, xs[i]? = some u → w.cell? ⟨b, off + i, none⟩ = some u
section
variable {w w' : World} {A : Option Addr} {xs : List Value}
theorem RowAt.nil : RowAt w A [] := .inl rfl
theorem RowAt.at {k : Nat} {u : Value} (h : RowAt w A xs) (hk : xs[k]? = some u) : ∃ b off, A = some ⟨b, off, none⟩ ∧ b < w.heap.size ∧ w.cell? ⟨b, off + k, none⟩ = some u := by
  rcases h with rfl | ⟨b, off, ha, hlt, hc⟩
  · simp at hk
  · exact ⟨b, off, ha, hlt, hc k u hk⟩
theorem RowAt.keep (h : RowAt w A xs) (hs : w.heap.size ≤ w'.heap.size) (hk : ∀ b o, b < w.heap.size → w'.cell? ⟨b, o, none⟩ = w.cell? ⟨b, o, none⟩) : RowAt w' A xs := by
  rcases h with h | ⟨b, off, ha, hlt, hc⟩
  · exact .inl h
  · exact .inr ⟨b, off, ha, Nat.lt_of_lt_of_le hlt hs, fun i u hi => by rw [hk b _ hlt]; exact hc i u hi⟩
theorem RowAt.below (h : RowAt w A xs) (hb : Below w.heap.size w w') : RowAt w' A xs := h.keep hb.size (bcell hb).1
theorem RowAt.alloc (h : RowAt w A xs) (o : Obj) : RowAt (w.alloc o) A xs := h.below ((Below.refl _ _).alloc (Nat.le_refl _) o)
theorem RowAt.drew (h : RowAt w A xs) : RowAt w.drew A xs := h
theorem RowAt.drewN (h : RowAt w A xs) (n : Nat) : RowAt (w.drewN n) A xs := h
theorem RowAt.new (w : World) (cs : Array Value) (t : TypeId) : RowAt (w.alloc (.cells cs t)) (some ⟨w.heap.size, 0, none⟩) cs.toList := by
  refine .inr ⟨w.heap.size, 0, rfl, by simp, fun i u hi => ?_⟩
  rw [Nat.zero_add, cell_of_row _ _ _ cs t (0, 0) (heap_alloc_new w _)]
  simpa using hi
theorem RowAt.take (h : RowAt w A xs) (k : Nat) : RowAt w A (xs.take k) := by
  rcases h with rfl | ⟨b, off, ha, hlt, hc⟩
  · exact .inl (by simp)
  · refine .inr ⟨b, off, ha, hlt, fun i u hi => hc i u ?_⟩
    rw [List.getElem?_take] at hi
    by_cases h : i < k
    · rwa [if_pos h] at hi
    · rw [if_neg h] at hi; cases hi
/-- What is cut off in front: the address that the model gives. -/
theorem RowAt.drop {b off : Nat} (h : RowAt w (some ⟨b, off, none⟩) xs) (k : Nat) : RowAt w (some ⟨b, off + k, none⟩) (xs.drop k) := by
  rcases h with rfl | ⟨b', off', ha, hlt, hc⟩
  · exact .inl (by simp)
  · cases ha
    exact .inr ⟨b, off + k, rfl, hlt, fun i u hi => by
      rw [List.getElem?_drop] at hi
      rw [Nat.add_assoc]; exact hc _ u hi⟩
theorem RowAt.cells {b off : Nat} (h : RowAt w (some ⟨b, off, none⟩) xs) : ∀ j u, xs[j]? = some u → w.cell? ((⟨b, off, none⟩ : Addr).add j) = some u := by
  rcases h with rfl | ⟨b', off', ha, hlt, hc⟩
  · intro j u hj; simp at hj
  · cases ha
    intro j u hj
    have hadd : (⟨b, off, none⟩ : Addr).add j = ⟨b, off + j, none⟩ := by unfold Addr.add; split <;> simp_all
    rw [hadd]; exact hc j u hj
end

/-! ### Rows of the call's own -/
theorem own_form {w : World} {base : Nat} {e : TypeId} {size : Nat} {v : Value} {n : Nat} {xs : List Value} (h : w.ownsRow base e size v n xs) : ∃ a cap, v = .slice a n cap ∧ n ≤ cap := by
  rcases h.2 with ⟨rfl, rfl⟩ | ⟨g, cap, cur, rfl, _, _, hc, _⟩
  · exact ⟨none, 0, rfl, Nat.le_refl _⟩
  · exact ⟨_, _, rfl, hc⟩
theorem RowAt.of_own {w : World} {base : Nat} {e : TypeId} {size : Nat} {A : Option Addr} {n cap : Nat} {xs : List Value} (h : w.ownsRow base e size (.slice A n cap) n xs) : RowAt w A xs := by
  by_cases hx : xs = []
  · exact .inl hx
  · have hn : 0 < n := by
      rcases Nat.eq_zero_or_pos n with h0 | h0
      · exfalso; apply hx; apply List.eq_nil_of_length_eq_zero; rw [h.1, h0, Nat.zero_mul]
      · exact h0
    obtain ⟨g, c, hv, _, hlt⟩ := h.form hn
    have hA : A = some ⟨g, 0, none⟩ := by injection hv
    subst hA
    refine .inr ⟨g, 0, rfl, hlt, fun i u hi => ?_⟩
    have := h.cells (g := g) rfl i u hi
    have hadd : (⟨g, 0, none⟩ : Addr).add i = ⟨g, 0 + i, none⟩ := by unfold Addr.add; split <;> simp_all
    rwa [hadd] at this
/-- A call's own row stays through whatever leaves what lies below the heap's end alone. -/
theorem own_below {w w' : World} {base : Nat} {e : TypeId} {size : Nat} {v : Value} {n : Nat} {xs : List Value} (h : w.ownsRow base e size v n xs) (hb : Below w.heap.size w w') : w'.ownsRow base e size v n xs := by
  refine ⟨h.1, ?_⟩
  rcases h.2 with h2 | ⟨g, cap, cur, hv, hg, hh, r⟩
  · exact .inl h2
  · refine .inr ⟨g, cap, cur, hv, hg, ?_, r⟩
    rw [hb.block g (lt_of_block' hh)]; exact hh
where lt_of_block' {w : World} {b : Nat} {o : Obj} (h : w.heap[b]? = some o) : b < w.heap.size := by
        rcases Nat.lt_or_ge b w.heap.size with h' | h'
        · exact h'
        · simp [Array.getElem?_eq_none h'] at h
/-- A row that lies beyond a base lies beyond a lower one. -/
theorem own_base {w : World} {base base' : Nat} {e : TypeId} {size : Nat} {v : Value} {n : Nat} {xs : List Value} (h : w.ownsRow base e size v n xs) (hb : base' ≤ base) : w.ownsRow base' e size v n xs := by
  refine ⟨h.1, ?_⟩
  rcases h.2 with h2 | ⟨g, cap, cur, hv, hg, r⟩
  · exact .inl h2
  · exact .inr ⟨g, cap, cur, hv, Nat.le_trans hb hg, r⟩
/-- The element type's row of the program's table. -/
structure Elem (P : Program) (t e : TypeId) (z : Value) (size bytes : Nat) : Prop where
  under : P.underlying t = some (.slice e)
  info : (P.info? e).map (fun i => (i.zero, i.size, i.bytes)) = some (some z, size, bytes)
  cells : z.cells.size = size
  pos : 0 < size
/-- append onto a row of the call's own, from whatever row: the new slice written out. -/
theorem run_append_row {P : Program} (w : World) {t e : TypeId} {z : Value} {size bytes : Nat} (E : Elem P t e z size bytes) (ty : TypeId) (base : Nat)
    (v : Value) (n : Nat) (xs : List Value) (hown : w.ownsRow base e size v n xs) (A : Option Addr) (m c : Nat) (news : List Value) (hl : news.length = m * size) (hr : RowAt w A news) (h1 : ∀ u ∈ news, u.oneCell' = true)
    (h63 : n + m ≤ maxLen) (hbytes : (n + m) * bytes ≤ 140737488355328) (hbase : base ≤ w.heap.size) (hnz : A = none → m = 0) :
    ∃ a' c' w', (Builtin.append_ #[t, t] ty #[v, .slice A m c]).run P w = .ok (.slice a' (n + m) c') w' ∧ w'.ownsRow base e size (.slice a' (n + m) c') (n + m) (xs ++ news) ∧ w.grownBy w' v.ownBlock ∧
      ((Value.slice a' (n + m) c').ownBlock = v.ownBlock ∨ (Value.slice a' (n + m) c').ownBlock = some w.heap.size) := by
  obtain ⟨i, hi, hz, hsize, hby⟩ := info_parts E.info
  rcases A with _ | ad
  · obtain rfl := hnz rfl
    have hn : news = [] := List.eq_nil_of_length_eq_zero (by simpa using hl)
    subst hn
    obtain ⟨a', c', hv, hc⟩ := own_form hown
    refine ⟨a', c', w, ?_, by simpa [← hv] using hown, ⟨rfl, rfl, rfl, Nat.le_refl _, fun _ _ _ => rfl⟩, .inl (by rw [hv]; rfl)⟩
    rcases hown.2 with ⟨rfl, rfl⟩ | ⟨g, cap, cur, rfl, _, _, hnc, _⟩
    · cases hv
      simp [Builtin.append_, run_underlying E.under, sizeOf, typeInfo, hi, Builtin.lenOf, Builtin.firstCells]
    · cases hv
      simp [Builtin.append_, run_underlying E.under, sizeOf, typeInfo, hi, Builtin.lenOf, Builtin.firstCells, hnc, storeCells]
  · have hcells : ∀ j u, news[j]? = some u → w.cell? (ad.add j) = some u := by
      rcases hr with rfl | ⟨b, off, ha, hlt, hc⟩
      · intro j u hj; simp at hj
      · cases ha
        exact RowAt.cells (.inr ⟨b, off, rfl, hlt, hc⟩)
    obtain ⟨v', w', hrun, h2, h3, _, h5⟩ := run_append_own_at (P := P) w base t ty e i z size bytes E.under hi hz hsize hby E.cells E.pos v n xs hown ad m c news hl hcells h1 h63 hbytes hbase
    obtain ⟨a', c', rfl, _⟩ := own_form h2
    exact ⟨a', c', w', hrun, h2, h3, h5⟩
section
variable {P : Program} {w : World} {t e : TypeId} {z : Value} {size bytes : Nat}
theorem wp_append_row {o : Oper} {a : Act} {K : Act → World → Prop} {Q : Exit → Act → World → Prop} (s x : Operand)
    (ho : o.op = .call { callee := .builtin .append, args := #[s, x], argTypes := #[t, t] }) (E : Elem P t e z size bytes) (base : Nat)
    (v : Value) (n : Nat) (xs : List Value) (hs : a.eval s = v) (hown : w.ownsRow base e size v n xs) (A : Option Addr) (m c : Nat) (news : List Value) (hx : a.eval x = .slice A m c) (hl : news.length = m * size) (hr : RowAt w A news) (h1 : ∀ u ∈ news, u.oneCell' = true)
    (h63 : n + m ≤ maxLen) (hbytes : (n + m) * bytes ≤ 140737488355328) (hbase : base ≤ w.heap.size) (hnz : A = none → m = 0)
    (h : ∀ a' c' w', w'.ownsRow base e size (.slice a' (n + m) c') (n + m) (xs ++ news) → w.grownBy w' v.ownBlock → ((Value.slice a' (n + m) c').ownBlock = v.ownBlock ∨ (Value.slice a' (n + m) c').ownBlock = some w.heap.size) → K (a.put o.dst (.slice a' (n + m) c')) w') : o.wp P a w K Q := by
  obtain ⟨a', c', w', hrun, h2, h3, h4⟩ := run_append_row w E o.type base v n xs hown A m c news hl hr h1 h63 hbytes hbase hnz
  unfold Oper.wp execOp
  simp only [ho, resolve, invoke, builtin, Sem.run_bind, Sem.run_pure, Result.andThen_ok, List.map_toArray, List.map_cons, List.map_nil, hs, hx, hrun]
  exact h a' c' w' h2 h3 h4
theorem wpList_append_row {ops : Array Oper} {rest : List Oper} {o : Oper} {a : Act} {Q : Exit → Act → World → Prop} (hgd : o.guard = none) (s x : Operand)
    (ho : o.op = .call { callee := .builtin .append, args := #[s, x], argTypes := #[t, t] }) (E : Elem P t e z size bytes) (base : Nat)
    (v : Value) (n : Nat) (xs : List Value) (hs : a.eval s = v) (hown : w.ownsRow base e size v n xs) (A : Option Addr) (m c : Nat) (news : List Value) (hx : a.eval x = .slice A m c) (hl : news.length = m * size) (hr : RowAt w A news) (h1 : ∀ u ∈ news, u.oneCell' = true)
    (h63 : n + m ≤ maxLen) (hbytes : (n + m) * bytes ≤ 140737488355328) (hbase : base ≤ w.heap.size) (hnz : A = none → m = 0)
    (h : ∀ a' c' w', w'.ownsRow base e size (.slice a' (n + m) c') (n + m) (xs ++ news) → w.grownBy w' v.ownBlock → ((Value.slice a' (n + m) c').ownBlock = v.ownBlock ∨ (Value.slice a' (n + m) c').ownBlock = some w.heap.size) → wpList P ops Q rest (a.put o.dst (.slice a' (n + m) c')) w') : wpList P ops Q (o :: rest) a w :=
  wpList_plain hgd fun _ hK => wp_append_row s x ho E base v n xs hs hown A m c news hx hl hr h1 h63 hbytes hbase hnz fun a' c' w' h2 h3 h4 => hK _ _ (h a' c' w' h2 h3 h4)
end
/-- A new row is returned; nothing that was there has changed. -/
def RetRow (e : TypeId) (size n : Nat) (xs : List Value) (w : World) (en : Ending) (w' : World) : Prop :=
  ∃ a cap, en = .returned (.slice a n cap) ∧ w'.ownsRow w.heap.size e size (.slice a n cap) n xs ∧ Below w.heap.size w w'
/-- 'w'' is 'w' with blocks and writes at block number B and beyond alone, out of what append gives. -/
theorem Below.appended {B : Nat} {w0 w w' : World} (h : Below B w0 w) {base : Nat} {e : TypeId} {size n : Nat} {v : Value} {xs : List Value} (hown : w.ownsRow base e size v n xs) (hg : w.grownBy w' v.ownBlock) (hB : B ≤ w.heap.size) (hb : B ≤ base) : Below B w0 w' :=
  h.grown hg hB fun k hk => Nat.le_trans hb (hown.lt k hk).1

/-! ### Bytes -/
def byteV (b : UInt8) : Value := .int .u8 (b.toNat : Int)
theorem byteV_one (bs : List UInt8) : ∀ u ∈ bs.map byteV, u.oneCell' = true := by
  intro u hu
  obtain ⟨b, _, rfl⟩ := List.mem_map.1 hu
  rfl
/-- What a slice of bytes reads. -/
def CellsB (w : World) (a : Option Addr) (bs : List UInt8) : Prop := RowAt w a (bs.map byteV)
theorem CellsB.at {w : World} {a : Option Addr} {bs : List UInt8} (h : CellsB w a bs) {k : Nat} (hk : k < bs.length) : ∃ b off, a = some ⟨b, off, none⟩ ∧ b < w.heap.size ∧ w.cell? ⟨b, off + k, none⟩ = some (.int .u8 ((bs.getD k 0).toNat : Int)) := by
  refine RowAt.at h (u := .int .u8 ((bs.getD k 0).toNat : Int)) ?_
  rw [List.getElem?_map, List.getElem?_eq_getElem hk, List.getD_eq_getElem?_getD, List.getElem?_eq_getElem hk]
  rfl
theorem CellsB.below {w w1 : World} {a : Option Addr} {bs : List UInt8} (h : CellsB w a bs) (hb : Below w.heap.size w w1) : CellsB w1 a bs := RowAt.below h hb
/-- One call behind the other. -/
theorem bt {w W W' : World} (h1 : Below w.heap.size w W) (h2 : Below W.heap.size W W') : Below w.heap.size w W' := h1.trans (h2.mono h1.size)
end Go.Proofs.Ytlejbhgginolgaa
