/-
  Ba: several texts in one.
-/
import Derived.Test.YthjdbmfobmnnlaaGreatProg
import Derived.WalkKit
import Derived.Lib.Hide
import Derived.ScopeJumps
import Derived.Deep.WholeRow
import Derived.Deep.AppendLies
import Derived.Maps.AppendAt
import Derived.Lib.SliceRun
import Derived.WalkSpells
import Derived.Deep.Draws
import Derived.WalkSmall
import Derived.Deep.QuietTactic
import Derived.BigQuiet
import Derived.Deep.RegionWith
import Derived.Deep.RegionHeld3
import Derived.Deep.DeepCutAuto
import Derived.Deep.DrawnRows
/-
  Small helpers that belong to no layer: a scope with one label, rows of cells that are read, rows of the call's own, append.
-/
namespace Go.Proofs.YthjdbmfobmnnlaaGreat
open Go.RowKit

/-- A scope whose text runs up to one label and jumps back to it: what holds at the label (J), a measure (μ); the text behind the label is walked once. -/
theorem scope_loop {P : Program} {c R : Code} {Q : Exit → Act → World → Prop} {a : Act} {w : World} (l : Nat) (J : Act → World → Prop) (μ : Act → World → Nat) (hf : findLabel c l = some (.seq .skip R))
    (pass : ∀ a w, J a w → R.wp P (Exit.jump l (fun a' w' => J a' w' ∧ μ a' w' < μ a w) Q) a w)
    (first : (∀ a w, J a w → R.wp P (Exit.jump l J Q) a w) → c.wp P (Exit.jump l J Q) a w) : (Code.scope c).wp P Q a w := by
  have hp : ∀ a w, J a w → R.wp P (Exit.jump l J Q) a w := fun a w h => Code.wp_mono (fun e a' w' q => by
    cases e with
    | goto l' => exact ⟨q.1, q.2.1⟩
    | normal => exact q
    | exit id => exact q
    | ret => exact q
    | panic ch => exact q
    | outgrown => exact q) (pass a w h)
  exact wp_scope_jumps l J μ hf (first hp) fun a w h => wp_seq (wp_skip (pass a w h))

/-- Behind a contract that ends in 'Below': all old cells and marks read as before. -/
theorem bcell {B : Nat} {W w1 : World} (hb : Below B W w1) : (∀ b o, b < B → w1.cell? ⟨b, o, none⟩ = W.cell? ⟨b, o, none⟩) ∧ (∀ b o, b < B → w1.frozen? ⟨b, o, none⟩ = W.frozen? ⟨b, o, none⟩) :=
  ⟨fun b o h => hb.cell (p := ⟨b, o, none⟩) h, fun b o h => hb.frozen (p := ⟨b, o, none⟩) h⟩

theorem ret_int {k : IntKind} {a b : Int} (h : a = b) : Ending.returned (.int k a) = .returned (.int k b) := by rw [h]
theorem ret_bool {a b : Bool} (h : a = b) : Ending.returned (.bool a) = .returned (.bool b) := by rw [h]

/-! ### A row of cells that is read -/
/-- The cells xs lie from address A on (below the heap's end); of no cells nothing is said. -/
def RowAt (w : World) (A : Option Addr) (xs : List Value) : Prop := xs = [] ∨ ∃ b off, A = some ⟨b, off, none⟩ ∧ b < w.heap.size ∧ ∀ i u, xs[i]? = some u → w.cell? ⟨b, off + i, none⟩ = some u
section
variable {w w' : World} {A : Option Addr} {xs : List Value}
theorem RowAt.nil : RowAt w A [] := .inl rfl
theorem RowAt.at {k : Nat} {u : Value} (h : RowAt w A xs) (hk : xs[k]? = some u) : ∃ b off, A = some ⟨b, off, none⟩ ∧ b < w.heap.size ∧ w.cell? ⟨b, off + k, none⟩ = some u := by
  rcases h with rfl | ⟨b, off, ha, hlt, hc⟩
  · simp at hk
  · exact ⟨b, off, ha, hlt, hc k u hk⟩
theorem RowAt.keep (h : RowAt w A xs) (hs : w.heap.size ≤ w'.heap.size) (hk : ∀ b o, b < w.heap.size → w'.cell? ⟨b, o, none⟩ = w.cell? ⟨b, o, none⟩) : RowAt w' A xs := by
  rcases h with h | ⟨b, off, ha, hlt, hc⟩
  · exact .inl h
  · exact .inr ⟨b, off, ha, Nat.lt_of_lt_of_le hlt hs, fun i u hi => by rw [hk b _ hlt]; exact hc i u hi⟩
theorem RowAt.below (h : RowAt w A xs) (hb : Below w.heap.size w w') : RowAt w' A xs := h.keep hb.size (bcell hb).1
theorem RowAt.alloc (h : RowAt w A xs) (o : Obj) : RowAt (w.alloc o) A xs := h.below ((Below.refl _ _).alloc (Nat.le_refl _) o)
theorem RowAt.drew (h : RowAt w A xs) : RowAt w.drew A xs := h
theorem RowAt.drewN (h : RowAt w A xs) (n : Nat) : RowAt (w.drewN n) A xs := h
theorem RowAt.new (w : World) (cs : Array Value) (t : TypeId) : RowAt (w.alloc (.cells cs t)) (some ⟨w.heap.size, 0, none⟩) cs.toList := by
  refine .inr ⟨w.heap.size, 0, rfl, by simp, fun i u hi => ?_⟩
  rw [Nat.zero_add, cell_of_row _ _ _ cs t (0, 0) (heap_alloc_new w _)]
  simpa using hi
theorem RowAt.take (h : RowAt w A xs) (k : Nat) : RowAt w A (xs.take k) := by
  rcases h with rfl | ⟨b, off, ha, hlt, hc⟩
  · exact .inl (by simp)
  · refine .inr ⟨b, off, ha, hlt, fun i u hi => hc i u ?_⟩
    rw [List.getElem?_take] at hi
    by_cases h : i < k
    · rwa [if_pos h] at hi
    · rw [if_neg h] at hi; cases hi
/-- What is cut off in front: the address that the model gives. -/
theorem RowAt.drop {b off : Nat} (h : RowAt w (some ⟨b, off, none⟩) xs) (k : Nat) : RowAt w (some ⟨b, off + k, none⟩) (xs.drop k) := by
  rcases h with rfl | ⟨b', off', ha, hlt, hc⟩
  · exact .inl (by simp)
  · cases ha
    exact .inr ⟨b, off + k, rfl, hlt, fun i u hi => by
      rw [List.getElem?_drop] at hi
      rw [Nat.add_assoc]; exact hc _ u hi⟩
theorem RowAt.cells {b off : Nat} (h : RowAt w (some ⟨b, off, none⟩) xs) : ∀ j u, xs[j]? = some u → w.cell? ((⟨b, off, none⟩ : Addr).add j) = some u := by
  rcases h with rfl | ⟨b', off', ha, hlt, hc⟩
  · intro j u hj; simp at hj
  · cases ha
    intro j u hj
    have hadd : (⟨b, off, none⟩ : Addr).add j = ⟨b, off + j, none⟩ := by unfold Addr.add; split <;> simp_all
    rw [hadd]; exact hc j u hj
end

/-! ### Rows of the call's own -/
theorem own_form {w : World} {base : Nat} {e : TypeId} {size : Nat} {v : Value} {n : Nat} {xs : List Value} (h : w.ownsRow base e size v n xs) : ∃ a cap, v = .slice a n cap ∧ n ≤ cap := by
  rcases h.2 with ⟨rfl, rfl⟩ | ⟨g, cap, cur, rfl, _, _, hc, _⟩
  · exact ⟨none, 0, rfl, Nat.le_refl _⟩
  · exact ⟨_, _, rfl, hc⟩
theorem RowAt.of_own {w : World} {base : Nat} {e : TypeId} {size : Nat} {A : Option Addr} {n cap : Nat} {xs : List Value} (h : w.ownsRow base e size (.slice A n cap) n xs) : RowAt w A xs := by
  by_cases hx : xs = []
  · exact .inl hx
  · have hn : 0 < n := by
      rcases Nat.eq_zero_or_pos n with h0 | h0
      · exfalso; apply hx; apply List.eq_nil_of_length_eq_zero; rw [h.1, h0, Nat.zero_mul]
      · exact h0
    obtain ⟨g, c, hv, _, hlt⟩ := h.form hn
    have hA : A = some ⟨g, 0, none⟩ := by injection hv
    subst hA
    refine .inr ⟨g, 0, rfl, hlt, fun i u hi => ?_⟩
    have := h.cells (g := g) rfl i u hi
    have hadd : (⟨g, 0, none⟩ : Addr).add i = ⟨g, 0 + i, none⟩ := by unfold Addr.add; split <;> simp_all
    rwa [hadd] at this
/-- A call's own row stays through whatever leaves what lies below the heap's end alone. -/
theorem own_below {w w' : World} {base : Nat} {e : TypeId} {size : Nat} {v : Value} {n : Nat} {xs : List Value} (h : w.ownsRow base e size v n xs) (hb : Below w.heap.size w w') : w'.ownsRow base e size v n xs := by
  refine ⟨h.1, ?_⟩
  rcases h.2 with h2 | ⟨g, cap, cur, hv, hg, hh, r⟩
  · exact .inl h2
  · refine .inr ⟨g, cap, cur, hv, hg, ?_, r⟩
    rw [hb.block g (lt_of_block' hh)]; exact hh
where lt_of_block' {w : World} {b : Nat} {o : Obj} (h : w.heap[b]? = some o) : b < w.heap.size := by
        rcases Nat.lt_or_ge b w.heap.size with h' | h'
        · exact h'
        · simp [Array.getElem?_eq_none h'] at h
/-- A row that lies beyond a base lies beyond a lower one. -/
theorem own_base {w : World} {base base' : Nat} {e : TypeId} {size : Nat} {v : Value} {n : Nat} {xs : List Value} (h : w.ownsRow base e size v n xs) (hb : base' ≤ base) : w.ownsRow base' e size v n xs := by
  refine ⟨h.1, ?_⟩
  rcases h.2 with h2 | ⟨g, cap, cur, hv, hg, r⟩
  · exact .inl h2
  · exact .inr ⟨g, cap, cur, hv, Nat.le_trans hb hg, r⟩
/-- The element type's row of the program's table. -/
structure Elem (P : Program) (t e : TypeId) (z : Value) (size bytes : Nat) : Prop where
  under : P.underlying t = some (.slice e)
  info : (P.info? e).map (fun i => (i.zero, i.size, i.bytes)) = some (some z, size, bytes)
  cells : z.cells.size = size
  pos : 0 < size
/-- append onto a row of the call's own, from whatever row: the new slice written out. -/
theorem run_append_row {P : Program} (w : World) {t e : TypeId} {z : Value} {size bytes : Nat} (E : Elem P t e z size bytes) (ty : TypeId) (base : Nat)
    (v : Value) (n : Nat) (xs : List Value) (hown : w.ownsRow base e size v n xs) (A : Option Addr) (m c : Nat) (news : List Value) (hl : news.length = m * size) (hr : RowAt w A news) (h1 : ∀ u ∈ news, u.oneCell' = true)
    (h63 : n + m ≤ maxLen) (hbytes : (n + m) * bytes ≤ 140737488355328) (hbase : base ≤ w.heap.size) (hnz : A = none → m = 0) :
    ∃ a' c' w', (Builtin.append_ #[t, t] ty #[v, .slice A m c]).run P w = .ok (.slice a' (n + m) c') w' ∧ w'.ownsRow base e size (.slice a' (n + m) c') (n + m) (xs ++ news) ∧ w.grownBy w' v.ownBlock ∧
      ((Value.slice a' (n + m) c').ownBlock = v.ownBlock ∨ (Value.slice a' (n + m) c').ownBlock = some w.heap.size) := by
  obtain ⟨i, hi, hz, hsize, hby⟩ := info_parts E.info
  rcases A with _ | ad
  · obtain rfl := hnz rfl
    have hn : news = [] := List.eq_nil_of_length_eq_zero (by simpa using hl)
    subst hn
    obtain ⟨a', c', hv, hc⟩ := own_form hown
    refine ⟨a', c', w, ?_, by simpa [← hv] using hown, ⟨rfl, rfl, rfl, Nat.le_refl _, fun _ _ _ => rfl⟩, .inl (by rw [hv]; rfl)⟩
    rcases hown.2 with ⟨rfl, rfl⟩ | ⟨g, cap, cur, rfl, _, _, hnc, _⟩
    · cases hv
      simp [Builtin.append_, run_underlying E.under, sizeOf, typeInfo, hi, Builtin.lenOf, Builtin.firstCells]
    · cases hv
      simp [Builtin.append_, run_underlying E.under, sizeOf, typeInfo, hi, Builtin.lenOf, Builtin.firstCells, hnc, storeCells]
  · have hcells : ∀ j u, news[j]? = some u → w.cell? (ad.add j) = some u := by
      rcases hr with rfl | ⟨b, off, ha, hlt, hc⟩
      · intro j u hj; simp at hj
      · cases ha
        exact RowAt.cells (.inr ⟨b, off, rfl, hlt, hc⟩)
    obtain ⟨v', w', hrun, h2, h3, _, h5⟩ := run_append_own_at (P := P) w base t ty e i z size bytes E.under hi hz hsize hby E.cells E.pos v n xs hown ad m c news hl hcells h1 h63 hbytes hbase
    obtain ⟨a', c', rfl, _⟩ := own_form h2
    exact ⟨a', c', w', hrun, h2, h3, h5⟩
section
variable {P : Program} {w : World} {t e : TypeId} {z : Value} {size bytes : Nat}
theorem wp_append_row {o : Oper} {a : Act} {K : Act → World → Prop} {Q : Exit → Act → World → Prop} (s x : Operand)
    (ho : o.op = .call { callee := .builtin .append, args := #[s, x], argTypes := #[t, t] }) (E : Elem P t e z size bytes) (base : Nat)
    (v : Value) (n : Nat) (xs : List Value) (hs : a.eval s = v) (hown : w.ownsRow base e size v n xs) (A : Option Addr) (m c : Nat) (news : List Value) (hx : a.eval x = .slice A m c) (hl : news.length = m * size) (hr : RowAt w A news) (h1 : ∀ u ∈ news, u.oneCell' = true)
    (h63 : n + m ≤ maxLen) (hbytes : (n + m) * bytes ≤ 140737488355328) (hbase : base ≤ w.heap.size) (hnz : A = none → m = 0)
    (h : ∀ a' c' w', w'.ownsRow base e size (.slice a' (n + m) c') (n + m) (xs ++ news) → w.grownBy w' v.ownBlock → ((Value.slice a' (n + m) c').ownBlock = v.ownBlock ∨ (Value.slice a' (n + m) c').ownBlock = some w.heap.size) → K (a.put o.dst (.slice a' (n + m) c')) w') : o.wp P a w K Q := by
  obtain ⟨a', c', w', hrun, h2, h3, h4⟩ := run_append_row w E o.type base v n xs hown A m c news hl hr h1 h63 hbytes hbase hnz
  unfold Oper.wp execOp
  simp only [ho, resolve, invoke, builtin, Sem.run_bind, Sem.run_pure, Result.andThen_ok, List.map_toArray, List.map_cons, List.map_nil, hs, hx, hrun]
  exact h a' c' w' h2 h3 h4
theorem wpList_append_row {ops : Array Oper} {rest : List Oper} {o : Oper} {a : Act} {Q : Exit → Act → World → Prop} (hgd : o.guard = none) (s x : Operand)
    (ho : o.op = .call { callee := .builtin .append, args := #[s, x], argTypes := #[t, t] }) (E : Elem P t e z size bytes) (base : Nat)
    (v : Value) (n : Nat) (xs : List Value) (hs : a.eval s = v) (hown : w.ownsRow base e size v n xs) (A : Option Addr) (m c : Nat) (news : List Value) (hx : a.eval x = .slice A m c) (hl : news.length = m * size) (hr : RowAt w A news) (h1 : ∀ u ∈ news, u.oneCell' = true)
    (h63 : n + m ≤ maxLen) (hbytes : (n + m) * bytes ≤ 140737488355328) (hbase : base ≤ w.heap.size) (hnz : A = none → m = 0)
    (h : ∀ a' c' w', w'.ownsRow base e size (.slice a' (n + m) c') (n + m) (xs ++ news) → w.grownBy w' v.ownBlock → ((Value.slice a' (n + m) c').ownBlock = v.ownBlock ∨ (Value.slice a' (n + m) c').ownBlock = some w.heap.size) → wpList P ops Q rest (a.put o.dst (.slice a' (n + m) c')) w') : wpList P ops Q (o :: rest) a w :=
  wpList_plain hgd fun _ hK => wp_append_row s x ho E base v n xs hs hown A m c news hx hl hr h1 h63 hbytes hbase hnz fun a' c' w' h2 h3 h4 => hK _ _ (h a' c' w' h2 h3 h4)
end
/-- A new row is returned; nothing that was there has changed. -/
def RetRow (e : TypeId) (size n : Nat) (xs : List Value) (w : World) (en : Ending) (w' : World) : Prop :=
  ∃ a cap, en = .returned (.slice a n cap) ∧ w'.ownsRow w.heap.size e size (.slice a n cap) n xs ∧ Below w.heap.size w w'
/-- 'w'' is 'w' with blocks and writes at block number B and beyond alone, out of what append gives. -/
theorem Below.appended {B : Nat} {w0 w w' : World} (h : Below B w0 w) {base : Nat} {e : TypeId} {size n : Nat} {v : Value} {xs : List Value} (hown : w.ownsRow base e size v n xs) (hg : w.grownBy w' v.ownBlock) (hB : B ≤ w.heap.size) (hb : B ≤ base) : Below B w0 w' :=
  h.grown hg hB fun k hk => Nat.le_trans hb (hown.lt k hk).1

/-! ### Bytes -/
def byteV (b : UInt8) : Value := .int .u8 (b.toNat : Int)
theorem byteV_one (bs : List UInt8) : ∀ u ∈ bs.map byteV, u.oneCell' = true := by
  intro u hu
  obtain ⟨b, _, rfl⟩ := List.mem_map.1 hu
  rfl
/-- What a slice of bytes reads. -/
def CellsB (w : World) (a : Option Addr) (bs : List UInt8) : Prop := RowAt w a (bs.map byteV)
theorem CellsB.at {w : World} {a : Option Addr} {bs : List UInt8} (h : CellsB w a bs) {k : Nat} (hk : k < bs.length) : ∃ b off, a = some ⟨b, off, none⟩ ∧ b < w.heap.size ∧ w.cell? ⟨b, off + k, none⟩ = some (.int .u8 ((bs.getD k 0).toNat : Int)) := by
  refine RowAt.at h (u := .int .u8 ((bs.getD k 0).toNat : Int)) ?_
  rw [List.getElem?_map, List.getElem?_eq_getElem hk, List.getD_eq_getElem?_getD, List.getElem?_eq_getElem hk]
  rfl
theorem CellsB.below {w w1 : World} {a : Option Addr} {bs : List UInt8} (h : CellsB w a bs) (hb : Below w.heap.size w w1) : CellsB w1 a bs := RowAt.below h hb
/-- One call behind the other. -/
theorem bt {w W W' : World} (h1 : Below w.heap.size w W) (h2 : Below W.heap.size W W') : Below w.heap.size w W' := h1.trans (h2.mono h1.size)
end Go.Proofs.YthjdbmfobmnnlaaGreat

/-
  Layer 6: the plain law of what more than half have.
-/
namespace Go.Proofs.YthjdbmfobmnnlaaGreat
open Go.RowKit
set_option linter.unusedVariables false
/-- How many of some have an index. -/
def heldN (ns : List Int) (i : Int) : Nat := ns.countP fun m => decide (i ≤ m)
theorem heldN_le (ns : List Int) (i : Int) : heldN ns i ≤ ns.length := List.countP_le_length
theorem heldN_snoc (ns : List Int) (m i : Int) : heldN (ns ++ [m]) i = heldN ns i + if i ≤ m then 1 else 0 := by
  unfold heldN
  rw [List.countP_append, List.countP_singleton]
  by_cases h : i ≤ m <;> simp [h]
theorem heldN_anti {ns : List Int} {i j : Int} (h : i ≤ j) : heldN ns j ≤ heldN ns i := by
  unfold heldN
  exact List.countP_mono_left fun x _ hx => by simp at hx ⊢; omega
/-- How many of so many are more than half. -/
def majN (n : Nat) : Nat := n / 2 + 1
abbrev sortI (ns : List Int) : List Int := ns.mergeSort fun x y => decide (x ≤ y)
theorem sortI_length (ns : List Int) : (sortI ns).length = ns.length := List.length_mergeSort ns
theorem sortI_perm (ns : List Int) : (sortI ns).Perm ns := List.mergeSort_perm ns _
theorem sortI_sorted (ns : List Int) : (sortI ns).Pairwise (fun x y => x ≤ y) := by
  have := List.pairwise_mergeSort (le := fun x y : Int => decide (x ≤ y)) (fun a b c h1 h2 => by simp at *; omega) (fun a b => by simp; omega) ns
  exact this.imp (fun h => by simpa using h)
theorem heldN_sort (ns : List Int) (i : Int) : heldN (sortI ns) i = heldN ns i := (sortI_perm ns).countP_eq _
/-- The greatest one that a majority has. -/
def mostL (ns : List Int) : Int := if ns.length = 0 then 0 else (sortI ns).getD (ns.length - majN ns.length) 0
theorem most_spec {ns : List Int} (h : ns.length ≠ 0) : mostL ns ∈ ns ∧ majN ns.length ≤ heldN ns (mostL ns) ∧ ∀ x, mostL ns < x → heldN ns x < majN ns.length := by
  have hl := sortI_length ns
  have hs := sortI_sorted ns
  have hq : majN ns.length ≤ ns.length := by unfold majN; omega
  have hq0 : 0 < majN ns.length := by unfold majN; omega
  have hi : ns.length - majN ns.length < (sortI ns).length := by omega
  have hv : mostL ns = (sortI ns)[ns.length - majN ns.length] := by
    unfold mostL
    rw [if_neg h, List.getD_eq_getElem?_getD, List.getElem?_eq_getElem hi]
    rfl
  rw [hv]
  refine ⟨(sortI_perm ns).mem_iff.1 (List.getElem_mem hi), ?_, ?_⟩
  · rw [← heldN_sort]
    unfold heldN
    have e : (sortI ns).countP (fun m => decide ((sortI ns)[ns.length - majN ns.length] ≤ m)) = ((sortI ns).take (ns.length - majN ns.length)).countP (fun m => decide ((sortI ns)[ns.length - majN ns.length] ≤ m)) + ((sortI ns).drop (ns.length - majN ns.length)).countP (fun m => decide ((sortI ns)[ns.length - majN ns.length] ≤ m)) := by
      rw [← List.countP_append, List.take_append_drop]
    have e2 : ((sortI ns).drop (ns.length - majN ns.length)).countP (fun m => decide ((sortI ns)[ns.length - majN ns.length] ≤ m)) = ((sortI ns).drop (ns.length - majN ns.length)).length := by
      rw [List.countP_eq_length]
      intro m hm
      rw [List.drop_eq_getElem_cons hi] at hm
      rcases List.mem_cons.1 hm with rfl | hm
      · simp
      · have := (List.pairwise_iff_getElem.1 hs)
        obtain ⟨j, hj, rfl⟩ := List.mem_iff_getElem.1 hm
        rw [List.getElem_drop]
        have := this (ns.length - majN ns.length) (ns.length - majN ns.length + 1 + j) hi (by rw [List.length_drop] at hj; omega) (by omega)
        simpa using this
    rw [e, e2, List.length_drop]
    omega
  · intro x hx
    rw [← heldN_sort]
    unfold heldN
    have e : (sortI ns).countP (fun m => decide (x ≤ m)) = ((sortI ns).take (ns.length - majN ns.length + 1)).countP (fun m => decide (x ≤ m)) + ((sortI ns).drop (ns.length - majN ns.length + 1)).countP (fun m => decide (x ≤ m)) := by
      rw [← List.countP_append, List.take_append_drop]
    have e2 : ((sortI ns).take (ns.length - majN ns.length + 1)).countP (fun m => decide (x ≤ m)) = 0 := by
      rw [List.countP_eq_zero]
      intro m hm
      obtain ⟨j, hj, rfl⟩ := List.mem_iff_getElem.1 hm
      rw [List.getElem_take]
      rw [List.length_take] at hj
      have hle : (sortI ns)[j]'(by omega) ≤ (sortI ns)[ns.length - majN ns.length] := by
        by_cases hjj : j = ns.length - majN ns.length
        · subst hjj; exact Int.le_refl _
        · exact (List.pairwise_iff_getElem.1 hs) j (ns.length - majN ns.length) (by omega) hi (by omega)
      simp
      omega
    have e3 := List.countP_le_length (p := fun m => decide (x ≤ m)) (l := (sortI ns).drop (ns.length - majN ns.length + 1))
    rw [List.length_drop] at e3
    rw [e, e2]
    omega
/-- Enough have it. -/
def enough (ns : List Int) (m : Int) : Prop := majN ns.length ≤ heldN ns m
theorem most_unique {ns : List Int} (h : ns.length ≠ 0) {b : Int} (h1 : enough ns b) (h2 : ∀ m ∈ ns, enough ns m → m ≤ b) : b = mostL ns := by
  obtain ⟨s1, s2, s3⟩ := most_spec h
  have := h2 _ s1 s2
  rcases Int.lt_or_le (mostL ns) b with h3 | h3
  · have := s3 b h3
    unfold enough at h1
    omega
  · omega
/-- Sums, one by one. -/
theorem held_grows {ns ks : List Int} (hl : ns.length = ks.length) (hk : ∀ k ∈ ks, 0 ≤ k) (i : Int) : heldN ns i ≤ heldN (List.zipWith (· + ·) ns ks) i := by
  induction ns generalizing ks with
  | nil => simp [heldN]
  | cons n ns ih =>
    match ks, hl, hk with
    | k :: ks, hl, hk =>
      have h1 := ih (ks := ks) (by simpa using hl) (fun x hx => hk x (by simp [hx]))
      have h0 := hk k (by simp)
      unfold heldN at h1 ⊢
      rw [List.zipWith_cons_cons, List.countP_cons, List.countP_cons]
      by_cases h : i ≤ n
      · simp [h, show i ≤ n + k by omega]; exact h1
      · simp [h]
        omega
theorem most_grows {ns ks : List Int} (hl : ns.length = ks.length) (hk : ∀ k ∈ ks, 0 ≤ k) : mostL ns ≤ mostL (List.zipWith (· + ·) ns ks) := by
  have hz : (List.zipWith (· + ·) ns ks).length = ns.length := by rw [List.length_zipWith, hl, Nat.min_self]
  by_cases h : ns.length = 0
  · unfold mostL; rw [if_pos h, if_pos (by omega)]; exact Int.le_refl _
  · obtain ⟨s1, s2, s3⟩ := most_spec h
    obtain ⟨t1, t2, t3⟩ := most_spec (ns := List.zipWith (· + ·) ns ks) (by omega)
    rcases Int.lt_or_le (mostL (List.zipWith (· + ·) ns ks)) (mostL ns) with h3 | h3
    · have h4 := t3 _ h3
      have := held_grows hl hk (mostL ns)
      rw [hz] at h4
      omega
    · exact h3
end Go.Proofs.YthjdbmfobmnnlaaGreat

/-
  Helpers that more than one layer uses: rows of one's own, blocks of two cells, append at a step of a region that draws.
-/
namespace Go.Proofs.YthjdbmfobmnnlaaGreat
open Go.RowKit
def b8 (n : Nat) : UInt8 := UInt8.ofNat n
theorem b8_toNat (n : Nat) (h : n < 256) : (b8 n).toNat = n := UInt8.toNat_ofNat_of_lt' h
theorem b8_mod (n : Nat) : (b8 n).toNat = n % 256 := rfl
theorem own_lit1 {w : World} {base : Nat} {e : TypeId} {size : Nat} (o : Obj) (cs : Array Value) (n : Nat) (hb : base ≤ w.heap.size + 1) (hm : n ≤ maxLen) (hs : cs.size = n * size) :
    ((w.alloc o).alloc (.cells cs e)).ownsRow base e size (.slice (some ⟨w.heap.size + 1, 0, none⟩) n n) n cs.toList := by
  have h := World.ownsRow_lit (base := base) (e := e) (size := size) (w.alloc o) cs n (by simpa using hb) hm hs
  have e1 : (w.alloc o).heap.size = w.heap.size + 1 := by simp
  rwa [e1] at h
/-- A row and an error. -/
def RetRowE (e : TypeId) (size n : Nat) (xs : List Value) (err : Int) (w : World) (en : Ending) (w' : World) : Prop :=
  ∃ a cap, en = .returned (.tuple #[.slice a n cap, .int .i64 err]) ∧ w'.ownsRow w.heap.size e size (.slice a n cap) n xs ∧ Below w.heap.size w w'
theorem own_from {w : World} {base : Nat} {e : TypeId} {size n cap : Nat} {A : Option Addr} {xs : List Value} (h : w.ownsRow base e size (.slice A n cap) n xs) : n ≠ 0 → ∀ b off, A = some ⟨b, off, none⟩ → base ≤ b := fun h0 b off ha => by
  obtain ⟨g, c, hv, hb, _⟩ := h.form (by omega)
  cases hv
  cases ha
  exact hb
/-- A block of two cells that was made ahead of what followed. -/
theorem two_cells {w w1 : World} {x y : Value} {t : TypeId} (hb : Below (w.alloc (.cells #[x, y] t)).heap.size (w.alloc (.cells #[x, y] t)) w1) :
    w1.cell? ⟨w.heap.size, 0, none⟩ = some x ∧ w1.cell? ⟨w.heap.size, 1, none⟩ = some y ∧ w1.frozen? ⟨w.heap.size, 0, none⟩ = false ∧ w1.frozen? ⟨w.heap.size, 1, none⟩ = false ∧ w.heap.size < w1.heap.size := by
  have hs : w.heap.size < (w.alloc (.cells #[x, y] t)).heap.size := by simp
  have e : ∀ i, w1.cell? ⟨w.heap.size, i, none⟩ = (#[x, y] : Array Value)[i]? := fun i => by
    rw [hb.cell (p := ⟨w.heap.size, i, none⟩) hs]
    exact cell_of_row _ _ _ _ _ (0, 0) (heap_alloc_new w _)
  have g : ∀ i, w1.frozen? ⟨w.heap.size, i, none⟩ = false := fun i => by
    rw [hb.frozen (p := ⟨w.heap.size, i, none⟩) hs]
    exact frozen_of_row _ _ _ _ _ (heap_alloc_new w _)
  exact ⟨e 0, e 1, g 0, g 1, Nat.lt_of_lt_of_le hs hb.size⟩
theorem alloc_below {w w1 : World} {o : Obj} (hb : Below (w.alloc o).heap.size (w.alloc o) w1) : Below w.heap.size w w1 := ((Below.refl _ _).alloc (Nat.le_refl _) o).trans (hb.mono (by simp))
theorem byte_cell {bs : List UInt8} {k : Nat} (hk : k < bs.length) : (bs.map byteV)[k]? = some (.int .u8 ((bs.getD k 0).toNat : Int)) := by
  rw [List.getElem?_map, List.getElem?_eq_getElem hk, List.getD_eq_getElem?_getD, List.getElem?_eq_getElem hk]
  rfl
theorem own_lt {w : World} {base : Nat} {e : TypeId} {size : Nat} {v : Value} {n : Nat} {xs : List Value} (h : w.ownsRow base e size v n xs) : ∀ g, v.ownBlock = some g → g < w.heap.size := fun g hg => (h.lt g hg).2
section
variable {P : Program} {w : World} {t e : TypeId} {z : Value} {size bytes : Nat}
/-- At a step of a region that draws its order. -/
theorem step_append_row {ops : Array Oper} {o : Oper} {a : Act} {K : Act → World → Prop} {Q : Exit → Act → World → Prop} {E0 : Prop} (hgd : o.guard = none) (s x : Operand)
    (ho : o.op = .call { callee := .builtin .append, args := #[s, x], argTypes := #[t, t] }) (E : Elem P t e z size bytes) (base : Nat)
    (v : Value) (n : Nat) (xs : List Value) (hs : a.eval s = v) (hown : w.ownsRow base e size v n xs) (A : Option Addr) (m c : Nat) (news : List Value) (hx : a.eval x = .slice A m c) (hl : news.length = m * size) (hr : RowAt w A news) (h1 : ∀ u ∈ news, u.oneCell' = true)
    (h63 : n + m ≤ maxLen) (hbytes : (n + m) * bytes ≤ 140737488355328) (hbase : base ≤ w.heap.size) (hnz : A = none → m = 0)
    (h : ∀ a' c' w', w'.ownsRow base e size (.slice a' (n + m) c') (n + m) (xs ++ news) → w.grownBy w' v.ownBlock → ((Value.slice a' (n + m) c').ownBlock = v.ownBlock ∨ (Value.slice a' (n + m) c').ownBlock = some w.heap.size) → K (a.put o.dst (.slice a' (n + m) c')) w') :
    if Region.wanted o (yielded ops a.tmps) = true then Oper.wp P o a w K Q else E0 := by
  have hw : Region.wanted o (yielded ops a.tmps) = true := by simp [Region.wanted, hgd]
  rw [if_pos hw]
  exact wp_append_row s x ho E base v n xs hs hown A m c news hx hl hr h1 h63 hbytes hbase hnz h
end
end Go.Proofs.YthjdbmfobmnnlaaGreat

/-
  Slices of numbers.
-/
namespace Go.Proofs.YthjdbmfobmnnlaaGreat
open Go.RowKit
set_option linter.unusedVariables false
/-! ### Slices of numbers -/
def intV (n : Int) : Value := .int .i64 n
/-- What a slice of numbers reads. -/
def CellsI (w : World) (a : Option Addr) (ns : List Int) : Prop := RowAt w a (ns.map intV)
theorem CellsI.at {w : World} {a : Option Addr} {ns : List Int} (h : CellsI w a ns) {k : Nat} (hk : k < ns.length) : ∃ b off, a = some ⟨b, off, none⟩ ∧ b < w.heap.size ∧ w.cell? ⟨b, off + k, none⟩ = some (.int .i64 (ns[k]'hk)) := by
  refine RowAt.at h (u := .int .i64 (ns[k]'hk)) ?_
  rw [List.getElem?_map, List.getElem?_eq_getElem hk]
  rfl
theorem CellsI.below {w w1 : World} {a : Option Addr} {ns : List Int} (h : CellsI w a ns) (hb : Below w.heap.size w w1) : CellsI w1 a ns := RowAt.below h hb
/-- A slice of numbers that came in. -/
structure IntsIn (w : World) (a : Option Addr) (cap : Nat) (ns : List Int) : Prop where
  cells : CellsI w a ns
  cap : ns.length ≤ cap
  none_ : a = none → ns.length = 0
  wf : ∀ n ∈ ns, (Lit.int .i64 n).wf = true
theorem elemI : Elem Tryz.prog 101 3 (.int .i64 0) 1 8 := ⟨Tryz.underlying101, by kernel_rfl, rfl, by omega⟩
theorem intV_one (ns : List Int) : ∀ u ∈ ns.map intV, u.oneCell' = true := by
  intro u hu
  obtain ⟨b, _, rfl⟩ := List.mem_map.1 hu
  rfl
end Go.Proofs.YthjdbmfobmnnlaaGreat

/-
  Layer 6: how many are more than half, how many have an index, and the document's answers.
-/
namespace Go.Proofs.YthjdbmfobmnnlaaGreat
open Go.RowKit
set_option linter.unusedVariables false
theorem majority_any (n : Int) (h : n ≤ 9223372036854775807) (h0 : -9223372036854775808 ≤ n) (w : World) : Calls Tryz.prog 113 #[.int .i64 n] w fun e w' => e = .returned (.int .i64 (if n < 1 then 1 else n / 2 + 1)) ∧ w = w' := by
  by_cases h1 : n < 1
  · rw [if_pos h1]
    have hm : max n 0 = 0 := by omega
    go_enter Tryz.func113, Tryz.ntmps113
    clear hm
    go_wp2
    all_goals
      go_ret
      refine ⟨?_, rfl⟩
      first
        | rfl
        | (simp; omega)
  · rw [if_neg h1]
    have hm : max n 0 = n := by omega
    have h2 : 0 ≤ n := by omega
    clear h1
    go_enter Tryz.func113, Tryz.ntmps113
    go_wp2
    go_ret
    exact ⟨by simp, rfl⟩
/-- What the document's loop has found so far. -/
def Found (ns : List Int) (j : Nat) (best : Int) (found : Bool) : Prop :=
  (found = false → best = 0 ∧ ∀ m ∈ ns.take j, ¬ enough ns m) ∧ (found = true → enough ns best ∧ ∀ m ∈ ns.take j, enough ns m → m ≤ best)
theorem Found.step {ns : List Int} {j : Nat} {best : Int} {found : Bool} (hf : Found ns j best found) (hj : j < ns.length) :
    (enough ns (ns[j]'hj) ∧ (found = false ∨ best < (ns[j]'hj)) → Found ns (j + 1) (ns[j]'hj) true) ∧ (¬ (enough ns (ns[j]'hj) ∧ (found = false ∨ best < (ns[j]'hj))) → Found ns (j + 1) best found) := by
  obtain ⟨h1, h2⟩ := hf
  have hm : ∀ m, m ∈ ns.take (j + 1) ↔ m ∈ ns.take j ∨ m = ns[j]'hj := fun m => by
    rw [List.take_succ_eq_append_getElem hj, List.mem_append, List.mem_singleton]
  refine ⟨fun ⟨he, hb⟩ => ⟨fun h => by (cases h), fun _ => ⟨he, fun m hmm hem => ?_⟩⟩, fun hn => ⟨fun h => ⟨(h1 h).1, fun m hmm => ?_⟩, fun h => ⟨(h2 h).1, fun m hmm hem => ?_⟩⟩⟩
  · rcases (hm m).1 hmm with h | rfl
    · cases found with
      | false => exact ((h1 rfl).2 m h hem).elim
      | true =>
        have := (h2 rfl).2 m h hem
        rcases hb with hb | hb
        · cases hb
        · omega
    · exact Int.le_refl _
  · rcases (hm m).1 hmm with h' | rfl
    · exact (h1 h).2 m h'
    · exact fun he => hn ⟨he, .inl h⟩
  · rcases (hm m).1 hmm with h' | rfl
    · exact (h2 h).2 m h' hem
    · rcases Int.lt_or_le best (ns[j]'hj) with h3 | h3
      · exact (hn ⟨hem, .inr h3⟩).elim
      · exact h3
theorem Found.last {ns : List Int} {best : Int} {found : Bool} (hf : Found ns ns.length best found) : best = mostL ns := by
  obtain ⟨h1, h2⟩ := hf
  rw [List.take_length] at h1 h2
  by_cases h0 : ns.length = 0
  · cases found with
    | false => unfold mostL; rw [if_pos h0]; exact (h1 rfl).1
    | true =>
      have := (h2 rfl).1
      have hh := heldN_le ns best
      unfold enough majN at this
      omega
  · obtain ⟨s1, s2, s3⟩ := most_spec h0
    cases found with
    | false => exact ((h1 rfl).2 _ s1 s2).elim
    | true => exact most_unique h0 (h2 rfl).1 (h2 rfl).2
end Go.Proofs.YthjdbmfobmnnlaaGreat

/-
  Blocks that a call made itself: what they hold behind other calls and behind stores.
-/
namespace Go.Proofs.YthjdbmfobmnnlaaGreat
open Go.RowKit
/-! ### Blocks that the call made itself -/
theorem blk_lt {W : World} {F : Nat} {o : Obj} (h : W.heap[F]? = some o) : F < W.heap.size := by
  rcases Nat.lt_or_ge F W.heap.size with h' | h'
  · exact h'
  · simp [Array.getElem?_eq_none h'] at h
theorem blk_keep {W w1 : World} {F : Nat} {o : Obj} (hb : Below W.heap.size W w1) (h : W.heap[F]? = some o) : w1.heap[F]? = some o := by rw [hb.block F (blk_lt h)]; exact h
theorem blk_new (w : World) (o : Obj) : (w.alloc o).heap[w.heap.size]? = some o := heap_alloc_new w o
theorem blk_alloc {w : World} {F : Nat} {o : Obj} (h : w.heap[F]? = some o) (o' : Obj) : (w.alloc o').heap[F]? = some o := by rw [Below.heap_alloc w o' F (blk_lt h)]; exact h
theorem alloc2_fst (w : World) (o1 o2 : Obj) : ((w.alloc o1).alloc o2).heap[w.heap.size]? = some o1 := blk_alloc (blk_new w o1) o2
theorem alloc2_snd (w : World) (o1 o2 : Obj) : ((w.alloc o1).alloc o2).heap[w.heap.size + 1]? = some o2 := by
  have := blk_new (w.alloc o1) o2
  simpa using this
theorem blk_cell {w : World} {F : Nat} {cs : Array Value} {t : TypeId} (h : w.heap[F]? = some (.cells cs t)) (i : Nat) : w.cell? ⟨F, i, none⟩ = cs[i]? := cell_of_row _ _ _ _ _ (0, 0) h
theorem blk_frozen {w : World} {F : Nat} {cs : Array Value} {t : TypeId} (h : w.heap[F]? = some (.cells cs t)) (i : Nat) : w.frozen? ⟨F, i, none⟩ = false := frozen_of_row _ _ _ _ _ h
theorem blk_set {w : World} {F i : Nat} {cs : Array Value} {t : TypeId} (h : w.heap[F]? = some (.cells cs t)) (v : Value) : (w.setCell ⟨F, i, none⟩ v).heap[F]? = some (.cells (cs.setIfInBounds i v) t) := by
  simp [World.setCell, Array.getElem?_modify, h]
theorem blk_far {w : World} {F G i : Nat} {o : Obj} (h : w.heap[F]? = some o) (hne : F ≠ G) (v : Value) : (w.setCell ⟨G, i, none⟩ v).heap[F]? = some o := by
  rw [Below.heap_setCell _ _ _ _ hne]; exact h
theorem box3 {w : World} {F : Nat} {x y z : Value} {t : TypeId} (h : w.heap[F]? = some (.cells #[x, y, z] t)) :
    w.cell? ⟨F, 0, none⟩ = some x ∧ w.cell? ⟨F, 1, none⟩ = some y ∧ w.cell? ⟨F, 2, none⟩ = some z ∧ w.frozen? ⟨F, 0, none⟩ = false ∧ w.frozen? ⟨F, 1, none⟩ = false ∧ w.frozen? ⟨F, 2, none⟩ = false ∧ F < w.heap.size :=
  ⟨blk_cell h 0, blk_cell h 1, blk_cell h 2, blk_frozen h 0, blk_frozen h 1, blk_frozen h 2, blk_lt h⟩
theorem box2 {w : World} {F : Nat} {x y : Value} {t : TypeId} (h : w.heap[F]? = some (.cells #[x, y] t)) :
    w.cell? ⟨F, 0, none⟩ = some x ∧ w.cell? ⟨F, 1, none⟩ = some y ∧ w.frozen? ⟨F, 0, none⟩ = false ∧ w.frozen? ⟨F, 1, none⟩ = false ∧ F < w.heap.size :=
  ⟨blk_cell h 0, blk_cell h 1, blk_frozen h 0, blk_frozen h 1, blk_lt h⟩
/-- Three cells written one by one. -/
abbrev set3 (w : World) (F : Nat) (x y z : Value) : World := ((w.setCell ⟨F, 0, none⟩ x).setCell ⟨F, 1, none⟩ y).setCell ⟨F, 2, none⟩ z
theorem set3_blk {w : World} {F : Nat} {x y z : Value} {t : TypeId} (h : w.heap[F]? = some (.cells #[x, y, z] t)) (x' y' z' : Value) : (set3 w F x' y' z').heap[F]? = some (.cells #[x', y', z'] t) := blk_set (blk_set (blk_set h x') y') z'
theorem set3_below {B : Nat} {w0 w : World} {F : Nat} (h : Below B w0 w) (hF : B ≤ F) (x y z : Value) : Below B w0 (set3 w F x y z) := ((h.setCell (p := ⟨F, 0, none⟩) hF x).setCell (p := ⟨F, 1, none⟩) hF y).setCell (p := ⟨F, 2, none⟩) hF z
theorem set3_far {w : World} {F G : Nat} {o : Obj} (h : w.heap[F]? = some o) (hne : F ≠ G) (x y z : Value) : (set3 w G x y z).heap[F]? = some o := blk_far (blk_far (blk_far h hne x) hne y) hne z
abbrev set2 (w : World) (F : Nat) (x y : Value) : World := (w.setCell ⟨F, 0, none⟩ x).setCell ⟨F, 1, none⟩ y
theorem set2_blk {w : World} {F : Nat} {x y : Value} {t : TypeId} (h : w.heap[F]? = some (.cells #[x, y] t)) (x' y' : Value) : (set2 w F x' y').heap[F]? = some (.cells #[x', y'] t) := blk_set (blk_set h x') y'
theorem set2_below {B : Nat} {w0 w : World} {F : Nat} (h : Below B w0 w) (hF : B ≤ F) (x y : Value) : Below B w0 (set2 w F x y) := (h.setCell (p := ⟨F, 0, none⟩) hF x).setCell (p := ⟨F, 1, none⟩) hF y
theorem set2_far {w : World} {F G : Nat} {o : Obj} (h : w.heap[F]? = some o) (hne : F ≠ G) (x y : Value) : (set2 w G x y).heap[F]? = some o := blk_far (blk_far h hne x) hne y
theorem below0 (w : World) : Below w.heap.size w w := Below.refl _ _
theorem below1 (w : World) (o : Obj) : Below w.heap.size w (w.alloc o) := (Below.refl _ _).alloc (Nat.le_refl _) o
theorem below2 (w : World) (o1 o2 : Obj) : Below w.heap.size w ((w.alloc o1).alloc o2) := (below1 w o1).alloc (by simp) o2
theorem alloc2_below {w w1 : World} {o1 o2 : Obj} (hb : Below ((w.alloc o1).alloc o2).heap.size ((w.alloc o1).alloc o2) w1) : Below w.heap.size w w1 := (below2 w o1 o2).trans (hb.mono (by simp; omega))
theorem Below.many {B : Nat} {a w : World} (h : Below B a w) (n : Nat) : Below B a (w.drewN n) := ⟨h.os, h.tape, h.output, h.size, h.block⟩
/-- A scope with one label that is jumped to from ahead alone: the text behind the label stands at each jump. -/
theorem scope_fwd {P : Program} {c R : Code} {Q : Exit → Act → World → Prop} {a : Act} {w : World} (l : Nat) (hf : findLabel c l = some (.seq .skip R))
    (first : c.wp P (Exit.jump l (fun a w => R.wp P (Exit.jump l (fun _ _ => False) Q) a w) Q) a w) : (Code.scope c).wp P Q a w :=
  wp_scope_jumps l (fun a w => R.wp P (Exit.jump l (fun _ _ => False) Q) a w) (fun _ _ => 0) hf first fun a w h => wp_seq (wp_skip (Code.wp_mono (fun e a' w' q => by
    cases e with
    | goto l' => exact ⟨q.1, q.2.elim⟩
    | normal => exact q
    | exit id => exact q
    | ret => exact q
    | panic ch => exact q
    | outgrown => exact q) h))
/-- Three blocks that were made first. -/
theorem alloc3 (w : World) (o1 o2 o3 : Obj) : ((((w.alloc o1).alloc o2).alloc o3).heap[w.heap.size]? = some o1 ∧ (((w.alloc o1).alloc o2).alloc o3).heap[w.heap.size + 1]? = some o2 ∧
    (((w.alloc o1).alloc o2).alloc o3).heap[w.heap.size + 2]? = some o3) ∧ (((w.alloc o1).alloc o2).alloc o3).heap.size = w.heap.size + 3 ∧ Below w.heap.size w (((w.alloc o1).alloc o2).alloc o3) := by
  have h3 := blk_new ((w.alloc o1).alloc o2) o3
  refine ⟨⟨blk_alloc (alloc2_fst w o1 o2) o3, blk_alloc (alloc2_snd w o1 o2) o3, ?_⟩, by simp, (below2 w o1 o2).alloc (by simp; omega) o3⟩
  simpa using h3
theorem blk_many {w : World} {F : Nat} {o : Obj} (h : w.heap[F]? = some o) (n : Nat) : (w.drewN n).heap[F]? = some o := h
theorem own_many {w : World} {base : Nat} {e : TypeId} {size n : Nat} {v : Value} {xs : List Value} (h : w.ownsRow base e size v n xs) (k : Nat) : (w.drewN k).ownsRow base e size v n xs := h
theorem own_set3 {w : World} {base F : Nat} {e : TypeId} {size n : Nat} {v : Value} {xs : List Value} (h : w.ownsRow base e size v n xs) (hF : F < base) (x y z : Value) : (set3 w F x y z).ownsRow base e size v n xs :=
  ownsRow_setCell_below (ownsRow_setCell_below (ownsRow_setCell_below h (a := ⟨F, 0, none⟩) hF x) (a := ⟨F, 1, none⟩) hF y) (a := ⟨F, 2, none⟩) hF z
theorem blk_grown {w w1 : World} {row : Option Nat} {F : Nat} {o : Obj} (hg : w.grownBy w1 row) (h : w.heap[F]? = some o) (hne : row ≠ some F) : w1.heap[F]? = some o := by
  rw [hg.block F (blk_lt h) (fun e => hne e.symm)]; exact h
theorem blk_drawn {w : World} {F : Nat} {o : Obj} (h : w.heap[F]? = some o) : w.drew.heap[F]? = some o := h
theorem own_drawn {w : World} {base : Nat} {e : TypeId} {size n : Nat} {v : Value} {xs : List Value} (h : w.ownsRow base e size v n xs) : w.drew.ownsRow base e size v n xs := h
theorem wrap_id {x : Int} (h0 : -9223372036854775808 ≤ x) (h1 : x ≤ 9223372036854775807) : IntKind.i64.wrap x = x := by rw [IntKind.wrap_i64]; omega
theorem wrap64_id {x : Int} (h0 : -9223372036854775808 ≤ x) (h1 : x ≤ 9223372036854775807) : wrap64 x = x := by unfold wrap64; omega
end Go.Proofs.YthjdbmfobmnnlaaGreat
