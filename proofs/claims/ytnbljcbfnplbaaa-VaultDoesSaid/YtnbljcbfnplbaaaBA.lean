/-
  BA: several texts in one.
-/
import Derived.Test.YtnbljcbfnplbaaaProg
import Derived.WalkKit
import Derived.Lib.Hide
import Derived.ScopeJumps
import Derived.Deep.WholeRow
import Derived.Deep.AppendLies
import Derived.Maps.AppendAt
import Derived.Lib.SliceRun
import Derived.WalkSpells
import Derived.Deep.Draws
import Derived.WalkSmall
import Derived.Deep.QuietTactic
import Derived.BigQuiet
import Derived.Deep.RegionWith
import Derived.Deep.RegionHeld3
import Derived.Deep.DeepCutAuto
import Derived.Deep.DrawnRows
import Derived.Lib.SmallJoins
import Derived.ProofKit
import Derived.Deep.Slices
import Derived.Deep.Fields
import Derived.ChangeSame
/-
  Small helpers that belong to no layer: a scope with one label, rows of cells that are read, rows of the call's own, append.
-/
namespace Go.Proofs.Ytnbljcbfnplbaaa
open Go.RowKit

/-- A scope whose text runs up to one label and jumps back to it: what holds at the label (J), a measure (μ); the text behind the label is walked once. -/
theorem scope_loop {P : Program} {c R : Code} {Q : Exit → Act → World → Prop} {a : Act} {w : World} (l : Nat) (J : Act → World → Prop) (μ : Act → World → Nat) (hf : findLabel c l = some (.seq .skip R))
    (pass : ∀ a w, J a w → R.wp P (Exit.jump l (fun a' w' => J a' w' ∧ μ a' w' < μ a w) Q) a w)
    (first : (∀ a w, J a w → R.wp P (Exit.jump l J Q) a w) → c.wp P (Exit.jump l J Q) a w) : (Code.scope c).wp P Q a w := by
  have hp : ∀ a w, J a w → R.wp P (Exit.jump l J Q) a w := fun a w h => Code.wp_mono (fun e a' w' q => by
    cases e with
    | goto l' => exact ⟨q.1, q.2.1⟩
    | normal => exact q
    | exit id => exact q
    | ret => exact q
    | panic ch => exact q
    | outgrown => exact q) (pass a w h)
  exact wp_scope_jumps l J μ hf (first hp) fun a w h => wp_seq (wp_skip (pass a w h))

/-- Behind a contract that ends in 'Below': all old cells and marks read as before. -/
theorem bcell {B : Nat} {W w1 : World} (hb : Below B W w1) : (∀ b o, b < B → w1.cell? ⟨b, o, none⟩ = W.cell? ⟨b, o, none⟩) ∧ (∀ b o, b < B → w1.frozen? ⟨b, o, none⟩ = W.frozen? ⟨b, o, none⟩) :=
  ⟨fun b o h => hb.cell (p := ⟨b, o, none⟩) h, fun b o h => hb.frozen (p := ⟨b, o, none⟩) h⟩

theorem ret_int {k : IntKind} {a b : Int} (h : a = b) : Ending.returned (.int k a) = .returned (.int k b) := by rw [h]
theorem ret_bool {a b : Bool} (h : a = b) : Ending.returned (.bool a) = .returned (.bool b) := by rw [h]

/-! ### A row of cells that is read -/
/-- The cells xs lie from address A on (below the heap's end); of no cells nothing is said. -/
def RowAt (w : World) (A : Option Addr) (xs : List Value) : Prop := xs = [] ∨ ∃ b off, A = some ⟨b, off, none⟩ ∧ b < w.heap.size ∧ ∀ i u, xs[i]? = some u → w.cell? ⟨b, off + i, none⟩ = some u
section
variable {w w' : World} {A : Option Addr} {xs : List Value}
theorem RowAt.nil : RowAt w A [] := .inl rfl
theorem RowAt.at {k : Nat} {u : Value} (h : RowAt w A xs) (hk : xs[k]? = some u) : ∃ b off, A = some ⟨b, off, none⟩ ∧ b < w.heap.size ∧ w.cell? ⟨b, off + k, none⟩ = some u := by
  rcases h with rfl | ⟨b, off, ha, hlt, hc⟩
  · simp at hk
  · exact ⟨b, off, ha, hlt, hc k u hk⟩
theorem RowAt.keep (h : RowAt w A xs) (hs : w.heap.size ≤ w'.heap.size) (hk : ∀ b o, b < w.heap.size → w'.cell? ⟨b, o, none⟩ = w.cell? ⟨b, o, none⟩) : RowAt w' A xs := by
  rcases h with h | ⟨b, off, ha, hlt, hc⟩
  · exact .inl h
  · exact .inr ⟨b, off, ha, Nat.lt_of_lt_of_le hlt hs, fun i u hi => by rw [hk b _ hlt]; exact hc i u hi⟩
theorem RowAt.below (h : RowAt w A xs) (hb : Below w.heap.size w w') : RowAt w' A xs := h.keep hb.size (bcell hb).1
theorem RowAt.alloc (h : RowAt w A xs) (o : Obj) : RowAt (w.alloc o) A xs := h.below ((Below.refl _ _).alloc (Nat.le_refl _) o)
theorem RowAt.drew (h : RowAt w A xs) : RowAt w.drew A xs := h
theorem RowAt.drewN (h : RowAt w A xs) (n : Nat) : RowAt (w.drewN n) A xs := h
theorem RowAt.new (w : World) (cs : Array Value) (t : TypeId) : RowAt (w.alloc (.cells cs t)) (some ⟨w.heap.size, 0, none⟩) cs.toList := by
  refine .inr ⟨w.heap.size, 0, rfl, by simp, fun i u hi => ?_⟩
  rw [Nat.zero_add, cell_of_row _ _ _ cs t (0, 0) (heap_alloc_new w _)]
  simpa using hi
theorem RowAt.take (h : RowAt w A xs) (k : Nat) : RowAt w A (xs.take k) := by
  rcases h with rfl | ⟨b, off, ha, hlt, hc⟩
  · exact .inl (by simp)
  · refine .inr ⟨b, off, ha, hlt, fun i u hi => hc i u ?_⟩
    rw [List.getElem?_take] at hi
    by_cases h : i < k
    · rwa [if_pos h] at hi
    · rw [if_neg h] at hi; cases hi
/-- What is cut off in front: the address that the model gives. -/
theorem RowAt.drop {b off : Nat} (h : RowAt w (some ⟨b, off, none⟩) xs) (k : Nat) : RowAt w (some ⟨b, off + k, none⟩) (xs.drop k) := by
  rcases h with rfl | ⟨b', off', ha, hlt, hc⟩
  · exact .inl (by simp)
  · cases ha
    exact .inr ⟨b, off + k, rfl, hlt, fun i u hi => by
      rw [List.getElem?_drop] at hi
      rw [Nat.add_assoc]; exact hc _ u hi⟩
theorem RowAt.cells {b off : Nat} (h : RowAt w (some ⟨b, off, none⟩) xs) : ∀ j u, xs[j]? = some u → w.cell? ((⟨b, off, none⟩ : Addr).add j) = some u := by
  rcases h with rfl | ⟨b', off', ha, hlt, hc⟩
  · intro j u hj; simp at hj
  · cases ha
    intro j u hj
    have hadd : (⟨b, off, none⟩ : Addr).add j = ⟨b, off + j, none⟩ := by unfold Addr.add; split <;> simp_all
    rw [hadd]; exact hc j u hj
end

/-! ### Rows of the call's own -/
theorem own_form {w : World} {base : Nat} {e : TypeId} {size : Nat} {v : Value} {n : Nat} {xs : List Value} (h : w.ownsRow base e size v n xs) : ∃ a cap, v = .slice a n cap ∧ n ≤ cap := by
  rcases h.2 with ⟨rfl, rfl⟩ | ⟨g, cap, cur, rfl, _, _, hc, _⟩
  · exact ⟨none, 0, rfl, Nat.le_refl _⟩
  · exact ⟨_, _, rfl, hc⟩
theorem RowAt.of_own {w : World} {base : Nat} {e : TypeId} {size : Nat} {A : Option Addr} {n cap : Nat} {xs : List Value} (h : w.ownsRow base e size (.slice A n cap) n xs) : RowAt w A xs := by
  by_cases hx : xs = []
  · exact .inl hx
  · have hn : 0 < n := by
      rcases Nat.eq_zero_or_pos n with h0 | h0
      · exfalso; apply hx; apply List.eq_nil_of_length_eq_zero; rw [h.1, h0, Nat.zero_mul]
      · exact h0
    obtain ⟨g, c, hv, _, hlt⟩ := h.form hn
    have hA : A = some ⟨g, 0, none⟩ := by injection hv
    subst hA
    refine .inr ⟨g, 0, rfl, hlt, fun i u hi => ?_⟩
    have := h.cells (g := g) rfl i u hi
    have hadd : (⟨g, 0, none⟩ : Addr).add i = ⟨g, 0 + i, none⟩ := by unfold Addr.add; split <;> simp_all
    rwa [hadd] at this
/-- A call's own row stays through whatever leaves what lies below the heap's end alone. -/
theorem own_below {w w' : World} {base : Nat} {e : TypeId} {size : Nat} {v : Value} {n : Nat} {xs : List Value} (h : w.ownsRow base e size v n xs) (hb : Below w.heap.size w w') : w'.ownsRow base e size v n xs := by
  refine ⟨h.1, ?_⟩
  rcases h.2 with h2 | ⟨g, cap, cur, hv, hg, hh, r⟩
  · exact .inl h2
  · refine .inr ⟨g, cap, cur, hv, hg, ?_, r⟩
    rw [hb.block g (lt_of_block' hh)]; exact hh
where lt_of_block' {w : World} {b : Nat} {o : Obj} (h : w.heap[b]? = some o) : b < w.heap.size := by
        rcases Nat.lt_or_ge b w.heap.size with h' | h'
        · exact h'
        · simp [Array.getElem?_eq_none h'] at h
/-- A row that lies beyond a base lies beyond a lower one. -/
theorem own_base {w : World} {base base' : Nat} {e : TypeId} {size : Nat} {v : Value} {n : Nat} {xs : List Value} (h : w.ownsRow base e size v n xs) (hb : base' ≤ base) : w.ownsRow base' e size v n xs := by
  refine ⟨h.1, ?_⟩
  rcases h.2 with h2 | ⟨g, cap, cur, hv, hg, r⟩
  · exact .inl h2
  · exact .inr ⟨g, cap, cur, hv, Nat.le_trans hb hg, r⟩
/-- The element type's row of the program's table. -/
structure Elem (P : Program) (t e : TypeId) (z : Value) (size bytes : Nat) : Prop where
  under : P.underlying t = some (.slice e)
  info : (P.info? e).map (fun i => (i.zero, i.size, i.bytes)) = some (some z, size, bytes)
  cells : z.cells.size = size
  pos : 0 < size
/-- append onto a row of the call's own, from whatever row: the new slice written out. -/
theorem run_append_row {P : Program} (w : World) {t e : TypeId} {z : Value} {size bytes : Nat} (E : Elem P t e z size bytes) (ty : TypeId) (base : Nat)
    (v : Value) (n : Nat) (xs : List Value) (hown : w.ownsRow base e size v n xs) (A : Option Addr) (m c : Nat) (news : List Value) (hl : news.length = m * size) (hr : RowAt w A news) (h1 : ∀ u ∈ news, u.oneCell' = true)
    (h63 : n + m ≤ maxLen) (hbytes : (n + m) * bytes ≤ 140737488355328) (hbase : base ≤ w.heap.size) (hnz : A = none → m = 0) :
    ∃ a' c' w', (Builtin.append_ #[t, t] ty #[v, .slice A m c]).run P w = .ok (.slice a' (n + m) c') w' ∧ w'.ownsRow base e size (.slice a' (n + m) c') (n + m) (xs ++ news) ∧ w.grownBy w' v.ownBlock ∧
      ((Value.slice a' (n + m) c').ownBlock = v.ownBlock ∨ (Value.slice a' (n + m) c').ownBlock = some w.heap.size) := by
  obtain ⟨i, hi, hz, hsize, hby⟩ := info_parts E.info
  rcases A with _ | ad
  · obtain rfl := hnz rfl
    have hn : news = [] := List.eq_nil_of_length_eq_zero (by simpa using hl)
    subst hn
    obtain ⟨a', c', hv, hc⟩ := own_form hown
    refine ⟨a', c', w, ?_, by simpa [← hv] using hown, ⟨rfl, rfl, rfl, Nat.le_refl _, fun _ _ _ => rfl⟩, .inl (by rw [hv]; rfl)⟩
    rcases hown.2 with ⟨rfl, rfl⟩ | ⟨g, cap, cur, rfl, _, _, hnc, _⟩
    · cases hv
      simp [Builtin.append_, run_underlying E.under, sizeOf, typeInfo, hi, Builtin.lenOf, Builtin.firstCells]
    · cases hv
      simp [Builtin.append_, run_underlying E.under, sizeOf, typeInfo, hi, Builtin.lenOf, Builtin.firstCells, hnc, storeCells]
  · have hcells : ∀ j u, news[j]? = some u → w.cell? (ad.add j) = some u := by
      rcases hr with rfl | ⟨b, off, ha, hlt, hc⟩
      · intro j u hj; simp at hj
      · cases ha
        exact RowAt.cells (.inr ⟨b, off, rfl, hlt, hc⟩)
    obtain ⟨v', w', hrun, h2, h3, _, h5⟩ := run_append_own_at (P := P) w base t ty e i z size bytes E.under hi hz hsize hby E.cells E.pos v n xs hown ad m c news hl hcells h1 h63 hbytes hbase
    obtain ⟨a', c', rfl, _⟩ := own_form h2
    exact ⟨a', c', w', hrun, h2, h3, h5⟩
section
variable {P : Program} {w : World} {t e : TypeId} {z : Value} {size bytes : Nat}
theorem wp_append_row {o : Oper} {a : Act} {K : Act → World → Prop} {Q : Exit → Act → World → Prop} (s x : Operand)
    (ho : o.op = .call { callee := .builtin .append, args := #[s, x], argTypes := #[t, t] }) (E : Elem P t e z size bytes) (base : Nat)
    (v : Value) (n : Nat) (xs : List Value) (hs : a.eval s = v) (hown : w.ownsRow base e size v n xs) (A : Option Addr) (m c : Nat) (news : List Value) (hx : a.eval x = .slice A m c) (hl : news.length = m * size) (hr : RowAt w A news) (h1 : ∀ u ∈ news, u.oneCell' = true)
    (h63 : n + m ≤ maxLen) (hbytes : (n + m) * bytes ≤ 140737488355328) (hbase : base ≤ w.heap.size) (hnz : A = none → m = 0)
    (h : ∀ a' c' w', w'.ownsRow base e size (.slice a' (n + m) c') (n + m) (xs ++ news) → w.grownBy w' v.ownBlock → ((Value.slice a' (n + m) c').ownBlock = v.ownBlock ∨ (Value.slice a' (n + m) c').ownBlock = some w.heap.size) → K (a.put o.dst (.slice a' (n + m) c')) w') : o.wp P a w K Q := by
  obtain ⟨a', c', w', hrun, h2, h3, h4⟩ := run_append_row w E o.type base v n xs hown A m c news hl hr h1 h63 hbytes hbase hnz
  unfold Oper.wp execOp
  simp only [ho, resolve, invoke, builtin, Sem.run_bind, Sem.run_pure, Result.andThen_ok, List.map_toArray, List.map_cons, List.map_nil, hs, hx, hrun]
  exact h a' c' w' h2 h3 h4
theorem wpList_append_row {ops : Array Oper} {rest : List Oper} {o : Oper} {a : Act} {Q : Exit → Act → World → Prop} (hgd : o.guard = none) (s x : Operand)
    (ho : o.op = .call { callee := .builtin .append, args := #[s, x], argTypes := #[t, t] }) (E : Elem P t e z size bytes) (base : Nat)
    (v : Value) (n : Nat) (xs : List Value) (hs : a.eval s = v) (hown : w.ownsRow base e size v n xs) (A : Option Addr) (m c : Nat) (news : List Value) (hx : a.eval x = .slice A m c) (hl : news.length = m * size) (hr : RowAt w A news) (h1 : ∀ u ∈ news, u.oneCell' = true)
    (h63 : n + m ≤ maxLen) (hbytes : (n + m) * bytes ≤ 140737488355328) (hbase : base ≤ w.heap.size) (hnz : A = none → m = 0)
    (h : ∀ a' c' w', w'.ownsRow base e size (.slice a' (n + m) c') (n + m) (xs ++ news) → w.grownBy w' v.ownBlock → ((Value.slice a' (n + m) c').ownBlock = v.ownBlock ∨ (Value.slice a' (n + m) c').ownBlock = some w.heap.size) → wpList P ops Q rest (a.put o.dst (.slice a' (n + m) c')) w') : wpList P ops Q (o :: rest) a w :=
  wpList_plain hgd fun _ hK => wp_append_row s x ho E base v n xs hs hown A m c news hx hl hr h1 h63 hbytes hbase hnz fun a' c' w' h2 h3 h4 => hK _ _ (h a' c' w' h2 h3 h4)
end
/-- A new row is returned; nothing that was there has changed. -/
def RetRow (e : TypeId) (size n : Nat) (xs : List Value) (w : World) (en : Ending) (w' : World) : Prop :=
  ∃ a cap, en = .returned (.slice a n cap) ∧ w'.ownsRow w.heap.size e size (.slice a n cap) n xs ∧ Below w.heap.size w w'
/-- 'w'' is 'w' with blocks and writes at block number B and beyond alone, out of what append gives. -/
theorem Below.appended {B : Nat} {w0 w w' : World} (h : Below B w0 w) {base : Nat} {e : TypeId} {size n : Nat} {v : Value} {xs : List Value} (hown : w.ownsRow base e size v n xs) (hg : w.grownBy w' v.ownBlock) (hB : B ≤ w.heap.size) (hb : B ≤ base) : Below B w0 w' :=
  h.grown hg hB fun k hk => Nat.le_trans hb (hown.lt k hk).1

/-! ### Bytes -/
def byteV (b : UInt8) : Value := .int .u8 (b.toNat : Int)
theorem byteV_one (bs : List UInt8) : ∀ u ∈ bs.map byteV, u.oneCell' = true := by
  intro u hu
  obtain ⟨b, _, rfl⟩ := List.mem_map.1 hu
  rfl
/-- What a slice of bytes reads. -/
def CellsB (w : World) (a : Option Addr) (bs : List UInt8) : Prop := RowAt w a (bs.map byteV)
theorem CellsB.at {w : World} {a : Option Addr} {bs : List UInt8} (h : CellsB w a bs) {k : Nat} (hk : k < bs.length) : ∃ b off, a = some ⟨b, off, none⟩ ∧ b < w.heap.size ∧ w.cell? ⟨b, off + k, none⟩ = some (.int .u8 ((bs.getD k 0).toNat : Int)) := by
  refine RowAt.at h (u := .int .u8 ((bs.getD k 0).toNat : Int)) ?_
  rw [List.getElem?_map, List.getElem?_eq_getElem hk, List.getD_eq_getElem?_getD, List.getElem?_eq_getElem hk]
  rfl
theorem CellsB.below {w w1 : World} {a : Option Addr} {bs : List UInt8} (h : CellsB w a bs) (hb : Below w.heap.size w w1) : CellsB w1 a bs := RowAt.below h hb
/-- One call behind the other. -/
theorem bt {w W W' : World} (h1 : Below w.heap.size w W) (h2 : Below W.heap.size W W') : Below w.heap.size w W' := h1.trans (h2.mono h1.size)
end Go.Proofs.Ytnbljcbfnplbaaa

/-
  Bytes as elements of a slice.
-/
namespace Go.Proofs.Ytnbljcbfnplbaaa
open Go.RowKit
theorem elemB : Elem Try.prog 46 5 (.int .u8 0) 1 1 := ⟨Try.underlying46, by kernel_rfl, rfl, by omega⟩
end Go.Proofs.Ytnbljcbfnplbaaa

/-
  Bytes read as a string.
-/
namespace Go.Proofs.Ytnbljcbfnplbaaa
open Go.RowKit

/-- Bytes as a string. -/
def strOf (bs : List UInt8) : ByteArray := ⟨bs.toArray⟩
theorem strOf_inj {bs cs : List UInt8} (h : strOf bs = strOf cs) : bs = cs := by
  have := congrArg (fun s => s.data.toList) h
  simpa [strOf] using this
theorem strOf_bytes (bs : List UInt8) : strOfNums (bs.map fun b => (b.toNat : Int)) = strOf bs := by
  unfold strOf strOfNums
  simp [Function.comp_def]
theorem str_test (x y : List UInt8) : (!(strOf x).toList == (strOf y).toList) = !decide (x = y) := by
  have e : ∀ z : List UInt8, (strOf z).toList = z := fun z => by simp [strOf]
  rw [e, e]
  by_cases h : x = y <;> simp [h]
theorem own_le {w : World} {base : Nat} {e : TypeId} {size : Nat} {A : Option Addr} {n cap : Nat} {xs : List Value} (h : w.ownsRow base e size (.slice A n cap) n xs) : n ≤ cap := by
  obtain ⟨a, c, hv, hc⟩ := own_form h
  cases hv
  exact hc
theorem own_none {w : World} {base : Nat} {e : TypeId} {size : Nat} {A : Option Addr} {n cap : Nat} {xs : List Value} (h : w.ownsRow base e size (.slice A n cap) n xs) : A = none → n = 0 := by
  rintro rfl
  rcases h.2 with ⟨_, h0⟩ | ⟨g, c, cur, hv, _⟩
  · exact h0
  · cases hv
theorem run_convert_cells {A : Option Addr} {bs : List UInt8} (cap : Nat) (w : World) (h : CellsB w A bs) (hz : A = none → bs.length = 0) :
    (convert 46 9 (.slice A bs.length cap)).run Try.prog w = .ok (.string (strOf bs)) w := by
  rcases A with _ | ad
  · obtain rfl := List.eq_nil_of_length_eq_zero (hz rfl)
    exact run_convert_bytes_nil (P := Try.prog) w 46 5 Try.underlying46 Try.underlying5 0 cap 9 Try.underlying9
  · by_cases h0 : bs = []
    · subst h0
      rw [run_convert_bytes_string (P := Try.prog) w 46 9 5 _ _ cap Try.underlying46 Try.underlying5 Try.underlying9]
      exact run_bytesToString (P := Try.prog) w ad 0 cap [] (by simp [loadCells, loadCellsFrom])
    · obtain ⟨b, off, he, _, hc⟩ := h.resolve_left (by simpa using h0)
      cases he
      have := run_convert_bytes_arg (P := Try.prog) w 46 5 Try.underlying46 Try.underlying5 b off bs.length cap (bs.map fun b => (b.toNat : Int)) (by simp) (fun i hi => by
        rw [hc i (byteV bs[i]) (by simp [hi])]
        simp [byteV, hi]) 9 Try.underlying9
      rwa [strOf_bytes] at this
end Go.Proofs.Ytnbljcbfnplbaaa

/-
  Helpers that more than one layer uses: rows of one's own, blocks of two cells, append at a step of a region that draws.
-/
namespace Go.Proofs.Ytnbljcbfnplbaaa
open Go.RowKit
def b8 (n : Nat) : UInt8 := UInt8.ofNat n
theorem b8_toNat (n : Nat) (h : n < 256) : (b8 n).toNat = n := UInt8.toNat_ofNat_of_lt' h
theorem b8_mod (n : Nat) : (b8 n).toNat = n % 256 := rfl
theorem own_lit1 {w : World} {base : Nat} {e : TypeId} {size : Nat} (o : Obj) (cs : Array Value) (n : Nat) (hb : base ≤ w.heap.size + 1) (hm : n ≤ maxLen) (hs : cs.size = n * size) :
    ((w.alloc o).alloc (.cells cs e)).ownsRow base e size (.slice (some ⟨w.heap.size + 1, 0, none⟩) n n) n cs.toList := by
  have h := World.ownsRow_lit (base := base) (e := e) (size := size) (w.alloc o) cs n (by simpa using hb) hm hs
  have e1 : (w.alloc o).heap.size = w.heap.size + 1 := by simp
  rwa [e1] at h
/-- A row and an error. -/
def RetRowE (e : TypeId) (size n : Nat) (xs : List Value) (err : Int) (w : World) (en : Ending) (w' : World) : Prop :=
  ∃ a cap, en = .returned (.tuple #[.slice a n cap, .int .i64 err]) ∧ w'.ownsRow w.heap.size e size (.slice a n cap) n xs ∧ Below w.heap.size w w'
theorem own_from {w : World} {base : Nat} {e : TypeId} {size n cap : Nat} {A : Option Addr} {xs : List Value} (h : w.ownsRow base e size (.slice A n cap) n xs) : n ≠ 0 → ∀ b off, A = some ⟨b, off, none⟩ → base ≤ b := fun h0 b off ha => by
  obtain ⟨g, c, hv, hb, _⟩ := h.form (by omega)
  cases hv
  cases ha
  exact hb
/-- A block of two cells that was made ahead of what followed. -/
theorem two_cells {w w1 : World} {x y : Value} {t : TypeId} (hb : Below (w.alloc (.cells #[x, y] t)).heap.size (w.alloc (.cells #[x, y] t)) w1) :
    w1.cell? ⟨w.heap.size, 0, none⟩ = some x ∧ w1.cell? ⟨w.heap.size, 1, none⟩ = some y ∧ w1.frozen? ⟨w.heap.size, 0, none⟩ = false ∧ w1.frozen? ⟨w.heap.size, 1, none⟩ = false ∧ w.heap.size < w1.heap.size := by
  have hs : w.heap.size < (w.alloc (.cells #[x, y] t)).heap.size := by simp
  have e : ∀ i, w1.cell? ⟨w.heap.size, i, none⟩ = (#[x, y] : Array Value)[i]? := fun i => by
    rw [hb.cell (p := ⟨w.heap.size, i, none⟩) hs]
    exact cell_of_row _ _ _ _ _ (0, 0) (heap_alloc_new w _)
  have g : ∀ i, w1.frozen? ⟨w.heap.size, i, none⟩ = false := fun i => by
    rw [hb.frozen (p := ⟨w.heap.size, i, none⟩) hs]
    exact frozen_of_row _ _ _ _ _ (heap_alloc_new w _)
  exact ⟨e 0, e 1, g 0, g 1, Nat.lt_of_lt_of_le hs hb.size⟩
theorem alloc_below {w w1 : World} {o : Obj} (hb : Below (w.alloc o).heap.size (w.alloc o) w1) : Below w.heap.size w w1 := ((Below.refl _ _).alloc (Nat.le_refl _) o).trans (hb.mono (by simp))
theorem byte_cell {bs : List UInt8} {k : Nat} (hk : k < bs.length) : (bs.map byteV)[k]? = some (.int .u8 ((bs.getD k 0).toNat : Int)) := by
  rw [List.getElem?_map, List.getElem?_eq_getElem hk, List.getD_eq_getElem?_getD, List.getElem?_eq_getElem hk]
  rfl
theorem own_lt {w : World} {base : Nat} {e : TypeId} {size : Nat} {v : Value} {n : Nat} {xs : List Value} (h : w.ownsRow base e size v n xs) : ∀ g, v.ownBlock = some g → g < w.heap.size := fun g hg => (h.lt g hg).2
section
variable {P : Program} {w : World} {t e : TypeId} {z : Value} {size bytes : Nat}
/-- At a step of a region that draws its order. -/
theorem step_append_row {ops : Array Oper} {o : Oper} {a : Act} {K : Act → World → Prop} {Q : Exit → Act → World → Prop} {E0 : Prop} (hgd : o.guard = none) (s x : Operand)
    (ho : o.op = .call { callee := .builtin .append, args := #[s, x], argTypes := #[t, t] }) (E : Elem P t e z size bytes) (base : Nat)
    (v : Value) (n : Nat) (xs : List Value) (hs : a.eval s = v) (hown : w.ownsRow base e size v n xs) (A : Option Addr) (m c : Nat) (news : List Value) (hx : a.eval x = .slice A m c) (hl : news.length = m * size) (hr : RowAt w A news) (h1 : ∀ u ∈ news, u.oneCell' = true)
    (h63 : n + m ≤ maxLen) (hbytes : (n + m) * bytes ≤ 140737488355328) (hbase : base ≤ w.heap.size) (hnz : A = none → m = 0)
    (h : ∀ a' c' w', w'.ownsRow base e size (.slice a' (n + m) c') (n + m) (xs ++ news) → w.grownBy w' v.ownBlock → ((Value.slice a' (n + m) c').ownBlock = v.ownBlock ∨ (Value.slice a' (n + m) c').ownBlock = some w.heap.size) → K (a.put o.dst (.slice a' (n + m) c')) w') :
    if Region.wanted o (yielded ops a.tmps) = true then Oper.wp P o a w K Q else E0 := by
  have hw : Region.wanted o (yielded ops a.tmps) = true := by simp [Region.wanted, hgd]
  rw [if_pos hw]
  exact wp_append_row s x ho E base v n xs hs hown A m c news hx hl hr h1 h63 hbytes hbase hnz h
end
end Go.Proofs.Ytnbljcbfnplbaaa

/-
  Helpers that more than one layer uses, with bytes.
-/

/-
  A slice of bytes that came in, out of the frame's own words.
-/
namespace Go.Proofs.Ytnbljcbfnplbaaa
open Go.RowKit

theorem byte_of_wf {z : Int} (h : (Lit.int .u8 z).wf = true) : ((UInt8.ofNat z.toNat).toNat : Int) = z := by
  have h' : 0 ≤ z ∧ z < 256 := by
    simp [Lit.wf, IntKind.min, IntKind.max, IntKind.signed, IntKind.bits] at h
    omega
  rw [UInt8.toNat_ofNat_of_lt' (by show z.toNat < 256; omega)]
  omega
theorem byte_exists {z : Int} (h : (Lit.int .u8 z).wf = true) : ∃ b : UInt8, z = (b.toNat : Int) := ⟨_, (byte_of_wf h).symm⟩
/-- What the frame says of a slice of bytes that came in: it reads as bytes. -/
theorem row_bytes {w : World} {a : Option Addr} {len cap : Nat} {zs : List Int}
    (h : (a = none ∧ len = 0 ∧ cap = 0 ∧ zs = []) ∨ ∃ x, a = some x ∧ len ≤ cap ∧ cap ≤ maxLen ∧ zs.length = cap ∧ (∀ i, i < zs.length → w.cell? (x.add i) = some (.int .u8 (zs.getD i 0))) ∧ ∀ n ∈ zs, (Lit.int .u8 n).wf = true) :
    ∃ bs : List UInt8, len = bs.length ∧ CellsB w a bs ∧ bs.length ≤ cap ∧ (a = none → bs.length = 0) := by
  rcases h with ⟨rfl, rfl, rfl, rfl⟩ | ⟨x, rfl, hl, hm, hz, hc, hw⟩
  · exact ⟨[], rfl, RowAt.nil, Nat.le_refl _, fun _ => rfl⟩
  · have hlen : ((zs.take len).map fun z => UInt8.ofNat z.toNat).length = len := by rw [List.length_map, List.length_take]; omega
    refine ⟨(zs.take len).map fun z => UInt8.ofNat z.toNat, hlen.symm, ?_, by omega, by simp⟩
    by_cases h0 : len = 0
    · subst h0
      exact .inl (by simp)
    · obtain ⟨b, off, spot⟩ := x
      have h1 := hc 0 (by omega)
      have hspot : spot = none := by simpa [Addr.add] using World.cell?_spot h1
      subst hspot
      have hadd : ∀ j, (⟨b, off, none⟩ : Addr).add j = ⟨b, off + j, none⟩ := fun j => by unfold Addr.add; split <;> simp_all
      refine .inr ⟨b, off, rfl, ?_, fun i u hi => ?_⟩
      · rw [hadd] at h1
        exact block_lt_of_cell h1
      · rw [List.map_map] at hi
        have hi1 : i < (zs.take len).length := by
          rcases Nat.lt_or_ge i (zs.take len).length with h | h
          · exact h
          · rw [List.getElem?_eq_none (by rw [List.length_map]; exact h)] at hi; cases hi
        rw [List.length_take] at hi1
        have hi2 : i < zs.length := by omega
        rw [List.getElem?_map, List.getElem?_take, if_pos (by omega), List.getElem?_eq_getElem hi2] at hi
        have hu : byteV (UInt8.ofNat zs[i].toNat) = u := by simpa using hi
        rw [← hu, ← hadd, hc i hi2]
        unfold byteV
        rw [byte_of_wf (hw _ (List.getElem_mem hi2)), List.getD_eq_getElem?_getD, List.getElem?_eq_getElem hi2]
        rfl
end Go.Proofs.Ytnbljcbfnplbaaa

/-
  Slice expressions over slices of bytes, whatever address they have.
-/
namespace Go.Proofs.Ytnbljcbfnplbaaa
open Go.RowKit

theorem sizeOf_byte (w : World) : (sizeOf 5).run Try.prog w = .ok 1 w := by
  obtain ⟨i, hi, _, hs, _⟩ := info_parts elemB.info
  simp [sizeOf, typeInfo, hi, hs]
theorem elem_bytes : Try.prog.elem 46 = 5 := by kernel_rfl
theorem under_bytes : Try.prog.underlying 46 = some (.slice (Try.prog.elem 46)) := by rw [elem_bytes]; exact Try.underlying46
theorem map_add_zero (a : Option Addr) : a.map (·.add (0 * 1)) = a := by
  rcases a with _ | ⟨b, off, s⟩
  · rfl
  · simp [Addr.add]
/-- 'b[:h]' of bytes. -/
theorem slice_to (a : Option Addr) (len cap h : Nat) (hh : h ≤ cap) (w : World) :
    (Instr.slice 46 (.slice a len cap) none (some (.int .i64 (h : Int))) none).run Try.prog w = .ok (.slice a h cap) w := by
  rw [run_slice_h (P := Try.prog) w 46 a len cap under_bytes .i64 (h : Int) (by omega) (by omega), elem_bytes, sizeOf_byte]
  simp only [Result.andThen, sliced, map_add_zero, Int.toNat_natCast, Nat.sub_zero, ite_self]
/-- The address of 'b[l:]'. -/
def cutA (a : Option Addr) (cap l : Nat) : Option Addr := if cap = l then a else a.map (·.add (l * 1))
theorem slice_from (a : Option Addr) (len cap l : Nat) (hl : l ≤ len) (w : World) :
    (Instr.slice 46 (.slice a len cap) (some (.int .i64 (l : Int))) none none).run Try.prog w = .ok (.slice (cutA a cap l) (len - l) (cap - l)) w := by
  rw [run_slice_l (P := Try.prog) w 46 a len cap under_bytes .i64 (l : Int) (by omega) (by omega), elem_bytes, sizeOf_byte]
  simp only [Result.andThen, sliced, Int.toNat_natCast, cutA]
/-- 'b[l:h]' of bytes. -/
theorem slice_mid (a : Option Addr) (len cap l h : Nat) (hl : l ≤ h) (hh : h ≤ cap) (w : World) :
    (Instr.slice 46 (.slice a len cap) (some (.int .i64 (l : Int))) (some (.int .i64 (h : Int))) none).run Try.prog w = .ok (.slice (cutA a cap l) (h - l) (cap - l)) w := by
  rw [run_slice_lh (P := Try.prog) w 46 a len cap under_bytes .i64 .i64 (l : Int) (h : Int) (by omega) (by omega) (by omega), elem_bytes, sizeOf_byte]
  simp only [Result.andThen, sliced, Int.toNat_natCast, cutA]
theorem RowAt.cut {w : World} {a : Option Addr} {xs : List Value} (h : RowAt w a xs) (cap l : Nat) (hc : xs.length ≤ cap) : RowAt w (cutA a cap l) (xs.drop l) := by
  unfold cutA
  by_cases e : cap = l
  · rw [if_pos e, List.drop_of_length_le (by omega)]; exact .nil
  · rw [if_neg e]
    rcases h with rfl | ⟨b, off, rfl, hlt, hx⟩
    · rw [List.drop_nil]; exact .nil
    · have hadd : (⟨b, off, none⟩ : Addr).add (l * 1) = ⟨b, off + l, none⟩ := by unfold Addr.add; split <;> simp_all
      rw [Option.map_some, hadd]
      exact RowAt.drop (.inr ⟨b, off, rfl, hlt, hx⟩) l
theorem cutA_none {a : Option Addr} {cap l n : Nat} (h : a = none → n = 0) : cutA a cap l = none → n - l = 0 := by
  unfold cutA
  intro e
  have : a = none := by
    by_cases hc : cap = l
    · rwa [if_pos hc] at e
    · rw [if_neg hc] at e; cases a with
      | none => rfl
      | some x => cases e
  rw [h this, Nat.zero_sub]
theorem CellsB.take {w : World} {a : Option Addr} {bs : List UInt8} (h : CellsB w a bs) (k : Nat) : CellsB w a (bs.take k) := by
  unfold CellsB at h ⊢; rw [List.map_take]; exact RowAt.take h k
theorem CellsB.cut {w : World} {a : Option Addr} {bs : List UInt8} (h : CellsB w a bs) (cap l : Nat) (hc : bs.length ≤ cap) : CellsB w (cutA a cap l) (bs.drop l) := by
  unfold CellsB at h ⊢; rw [List.map_drop]; exact RowAt.cut h cap l (by simpa using hc)
end Go.Proofs.Ytnbljcbfnplbaaa

/-
  Slice expressions over slices of whatever elements; a row of elements.
-/
namespace Go.Proofs.Ytnbljcbfnplbaaa
open Go.RowKit

section
variable {P : Program} {t e : TypeId} {z : Value} {size bytes : Nat}
theorem Elem.sizeOf (E : Elem P t e z size bytes) (w : World) : (Go.sizeOf e).run P w = .ok size w := by
  obtain ⟨i, hi, _, hs, _⟩ := info_parts E.info
  simp [Go.sizeOf, typeInfo, hi, hs]
theorem Elem.self (E : Elem P t e z size bytes) : P.elem t = e := by
  have := E.under
  unfold Program.elem
  rw [this]
theorem Elem.under' (E : Elem P t e z size bytes) : P.underlying t = some (.slice (P.elem t)) := by rw [E.self]; exact E.under
theorem map_add_zeroS (a : Option Addr) (s : Nat) : a.map (·.add (0 * s)) = a := by
  rcases a with _ | ⟨b, off, sp⟩
  · rfl
  · simp [Addr.add]
theorem slice_toS (E : Elem P t e z size bytes) (a : Option Addr) (len cap h : Nat) (hh : h ≤ cap) (w : World) :
    (Instr.slice t (.slice a len cap) none (some (.int .i64 (h : Int))) none).run P w = .ok (.slice a h cap) w := by
  rw [run_slice_h (P := P) w t a len cap E.under' .i64 (h : Int) (by omega) (by omega), E.self, E.sizeOf]
  simp only [Result.andThen, sliced, map_add_zeroS, Int.toNat_natCast, Nat.sub_zero, ite_self]
/-- The address of 's[l:]', elements of so many cells. -/
def cutS (a : Option Addr) (cap l size : Nat) : Option Addr := if cap = l then a else a.map (·.add (l * size))
theorem slice_fromS (E : Elem P t e z size bytes) (a : Option Addr) (len cap l : Nat) (hl : l ≤ len) (w : World) :
    (Instr.slice t (.slice a len cap) (some (.int .i64 (l : Int))) none none).run P w = .ok (.slice (cutS a cap l size) (len - l) (cap - l)) w := by
  rw [run_slice_l (P := P) w t a len cap E.under' .i64 (l : Int) (by omega) (by omega), E.self, E.sizeOf]
  simp only [Result.andThen, sliced, Int.toNat_natCast, cutS]
theorem slice_midS (E : Elem P t e z size bytes) (a : Option Addr) (len cap l h : Nat) (hl : l ≤ h) (hh : h ≤ cap) (w : World) :
    (Instr.slice t (.slice a len cap) (some (.int .i64 (l : Int))) (some (.int .i64 (h : Int))) none).run P w = .ok (.slice (cutS a cap l size) (h - l) (cap - l)) w := by
  rw [run_slice_lh (P := P) w t a len cap E.under' .i64 .i64 (l : Int) (h : Int) (by omega) (by omega) (by omega), E.self, E.sizeOf]
  simp only [Result.andThen, sliced, Int.toNat_natCast, cutS]
end
theorem RowAt.cutS {w : World} {a : Option Addr} {xs : List Value} (h : RowAt w a xs) (cap l size : Nat) (hc : xs.length ≤ cap * size) : RowAt w (cutS a cap l size) (xs.drop (l * size)) := by
  unfold Proofs.Ytnbljcbfnplbaaa.cutS
  by_cases e : cap = l
  · rw [if_pos e, List.drop_of_length_le (by rw [← e]; exact hc)]; exact .nil
  · rw [if_neg e]
    rcases h with rfl | ⟨b, off, rfl, hlt, hx⟩
    · rw [List.drop_nil]; exact .nil
    · have hadd : (⟨b, off, none⟩ : Addr).add (l * size) = ⟨b, off + l * size, none⟩ := by unfold Addr.add; split <;> simp_all
      rw [Option.map_some, hadd]
      exact RowAt.drop (.inr ⟨b, off, rfl, hlt, hx⟩) (l * size)
theorem cutS_none {a : Option Addr} {cap l size n : Nat} (h : a = none → n = 0) : cutS a cap l size = none → n - l = 0 := by
  unfold cutS
  intro e
  have : a = none := by
    by_cases hc : cap = l
    · rwa [if_pos hc] at e
    · rw [if_neg hc] at e; cases a with
      | none => rfl
      | some x => cases e
  rw [h this, Nat.zero_sub]
end Go.Proofs.Ytnbljcbfnplbaaa

/-
  Arguments out of the frame's own words: slices of bytes, as they are read.
-/
namespace Go.Proofs.Ytnbljcbfnplbaaa
open Go.RowKit Go.ChangeShapes Go.WideShapes Go.Deep Go.Joins

/-- A slice of bytes that came in. -/
structure BytesIn (w : World) (a : Option Addr) (cap : Nat) (bs : List UInt8) : Prop where
  cells : CellsB w a bs
  cap : bs.length ≤ cap
  none_ : a = none → bs.length = 0
section
variable {H : Type} {enc : TypeId × Value → H} {w : World}
theorem open_bytes_cells {fuel : Nat} {v : Value} {y : DataW H × List MemPlace} (h : DataW.trod enc Try.prog w 0 (fun _ => true) true fuel 46 [v] = some y) :
    ∃ a cap bs, v = .slice a bs.length cap ∧ BytesIn w a cap bs := by
  rcases open_ints Try.underlying46 Try.underlying5 (by kernel_rfl) h with ⟨hcs, _⟩ | ⟨x, l, c, zs, hcs, _, hl, hm, hz, _, hcell, hwz⟩
  · simp at hcs
    subst hcs
    exact ⟨none, 0, [], rfl, ⟨RowAt.nil, Nat.le_refl _, fun _ => rfl⟩⟩
  · simp at hcs
    subst hcs
    obtain ⟨bs, h1, h2, h3, h4⟩ := row_bytes (w := w) (a := some x) (len := l) (cap := c) (zs := zs) (.inr ⟨x, rfl, hl, hm, by simpa using hz, hcell, hwz⟩)
    subst h1
    exact ⟨some x, c, bs, rfl, ⟨h2, h3, h4⟩⟩
set_option maxRecDepth 100000 in
theorem open_bytes_arg {r : Reach} {b0 : Nat} {v : Value} {d : DataW H} {p : List MemPlace} (hv : Value.okWide Try.prog w r b0 46 v) (h : DataW.Trod enc Try.prog w 0 (fun _ => true) true 46 v d p) :
    ∃ a cap bs, v = .slice a bs.length cap ∧ BytesIn w a cap bs := by
  obtain ⟨a, l, c, rfl⟩ := okWide_slice Try.underlying46 hv
  obtain ⟨fuel, hf⟩ := h
  exact open_bytes_cells (by simpa [Value.cells] using hf)
end
end Go.Proofs.Ytnbljcbfnplbaaa

/-
  Slices of structs of one-cell fields, as they come in.
-/
namespace Go.Proofs.Ytnbljcbfnplbaaa
open Go.RowKit
open Go.ChangeShapes Go.WideShapes Go.Deep Go.Joins
section
variable {H : Type} {enc : TypeId × Value → H} {P : Program} {w : World} {base : Nat}
theorem open_structs {t e : TypeId} {fs : Array Field} {fuel : Nat} {cs : List Value} {x : DataW H × List MemPlace} (ht : P.underlying t = some (.slice e)) (he : P.underlying e = some (.struct fs))
    (hone : oneCellFields P fs = true) (hC : P.cellsOf e = fs.size) (h0 : 0 < fs.size) (h : DataW.trod enc P w base (fun _ => true) true fuel t cs = some x) :
    ∃ (a : Option Addr) (len cap : Nat) (xs : List Value), cs = [.slice a len cap] ∧ len ≤ cap ∧ cap ≤ maxLen ∧ (a = none → len = 0) ∧ RowAt w a xs ∧ xs.length = len * fs.size ∧
      ∀ i, i < len → ∀ (j : Nat) (f : Field), fs[j]? = some f → ∃ (v : Value) (y : DataW H × List MemPlace) (n : Nat), xs[i * fs.size + j]? = some v ∧ DataW.trod enc P w base (fun _ => true) true n f.type [v] = some y := by
  rcases open_slice ht h with ⟨h1, _⟩ | ⟨a, len, cap, m, n, D, Pl, hcs, hb, hl, hm, hmm, hx, hi⟩
  · exact ⟨none, 0, 0, [], h1, Nat.le_refl _, Nat.zero_le _, fun _ => rfl, RowAt.nil, by simp, fun i hi => by omega⟩
  · have hcell : ∀ i, i < len → ∀ (j : Nat) (f : Field), fs[j]? = some f → ∃ (v : Value) (y : DataW H × List MemPlace) (n : Nat), w.cell? (a.add (i * fs.size + j)) = some v ∧ DataW.trod enc P w base (fun _ => true) true n f.type [v] = some y := by
      intro i hil j f hj
      have him : i < m := by rw [hmm]; simp; omega
      obtain ⟨cs', hc, ht'⟩ := hi i him
      rw [hC] at hc
      obtain ⟨ys, n', hn', hy, hlen, hyl, hf⟩ := DataW.trod_struct he ht'
      obtain ⟨_, hcl, hat⟩ := World.cells?_some hc
      obtain ⟨ho, hk⟩ := hone_of hone j f hj
      have hjl : j < fs.size := (Array.getElem?_eq_some_iff.1 hj).1
      have hcell := hat j hjl
      have hv : cs'[j]? = some (cs'[j]'(by omega)) := List.getElem?_eq_getElem (by omega)
      have h1 := hf j f hj
      rw [ho, hk] at h1
      have hone' : (cs'.drop j).take 1 = [cs'[j]'(by omega)] := by
        rw [List.drop_eq_getElem_cons (by omega)]
        rfl
      rw [hone'] at h1
      have hys : ys[j]? = some (ys[j]'(by omega)) := List.getElem?_eq_getElem (by omega)
      refine ⟨_, _, _, ?_, h1.trans hys⟩
      rw [← Go.Deep.add_add, hcell, hv]
    by_cases h1 : len = 0
    · exact ⟨some a, len, cap, [], hcs, hl, hm, fun h => (by cases h), RowAt.nil, by simp [h1], fun i hi => by omega⟩
    · obtain ⟨b, off, spot⟩ := a
      have hall : ∀ k, k < len * fs.size → ∃ v, w.cell? ((⟨b, off, spot⟩ : Addr).add k) = some v := by
        intro k hk
        have hm : k % fs.size < fs.size := Nat.mod_lt _ h0
        obtain ⟨v, _, _, hv, _⟩ := hcell (k / fs.size) ((Nat.div_lt_iff_lt_mul h0).2 hk) (k % fs.size) _ (Array.getElem?_eq_getElem hm)
        rw [Nat.div_add_mod' k fs.size] at hv
        exact ⟨v, hv⟩
      obtain ⟨v0, hv0⟩ := hall 0 (Nat.mul_pos (by omega) h0)
      have hspot : spot = none := by simpa [Addr.add] using World.cell?_spot hv0
      subst hspot
      have hadd : ∀ j, (⟨b, off, none⟩ : Addr).add j = ⟨b, off + j, none⟩ := fun j => by unfold Addr.add; split <;> simp_all
      have hlt : b < w.heap.size := by rw [hadd] at hv0; exact block_lt_of_cell hv0
      have hget : ∀ k, k < len * fs.size → ((List.range (len * fs.size)).map fun k => (w.cell? ⟨b, off + k, none⟩).getD undef)[k]? = w.cell? ⟨b, off + k, none⟩ := by
        intro k hk
        obtain ⟨v, hv⟩ := hall k hk
        rw [hadd] at hv
        rw [List.getElem?_map, List.getElem?_range hk, hv]; simp [hv]
      refine ⟨some ⟨b, off, none⟩, len, cap, (List.range (len * fs.size)).map fun k => (w.cell? ⟨b, off + k, none⟩).getD undef, hcs, hl, hm, fun h => (by cases h), .inr ⟨b, off, rfl, hlt, fun i u hu => ?_⟩, by simp, fun i hi j f hj => ?_⟩
      · have hi : i < len * fs.size := by
          rcases Nat.lt_or_ge i (len * fs.size) with h | h
          · exact h
          · rw [List.getElem?_eq_none (by simpa using h)] at hu; cases hu
        rw [hget i hi] at hu
        exact hu
      · obtain ⟨v, y, n, hv, hy⟩ := hcell i hi j f hj
        have hjl : j < fs.size := (Array.getElem?_eq_some_iff.1 hj).1
        refine ⟨v, y, n, ?_, hy⟩
        rw [hget _ (by have := Nat.mul_le_mul_right fs.size (show i + 1 ≤ len from hi); rw [Nat.add_mul] at this; omega)]
        rw [hadd] at hv
        exact hv
/-- Elements that are there one by one are there as a list. -/
theorem list_choose {α : Type} {R : Nat → α → Prop} : ∀ (n : Nat), (∀ i, i < n → ∃ x, R i x) → ∃ l : List α, l.length = n ∧ ∀ i x, l[i]? = some x → R i x
  | 0, _ => ⟨[], rfl, fun i x h => by simp at h⟩
  | n + 1, h => by
    obtain ⟨l, hl, hr⟩ := list_choose n fun i hi => h i (by omega)
    obtain ⟨x, hx⟩ := h n (by omega)
    refine ⟨l ++ [x], by simp [hl], fun i y hy => ?_⟩
    rw [List.getElem?_append] at hy
    by_cases h1 : i < l.length
    · rw [if_pos h1] at hy; exact hr i y hy
    · rw [if_neg h1] at hy
      have : i - l.length = 0 := by
        rcases Nat.eq_zero_or_pos (i - l.length) with h | h
        · exact h
        · rw [List.getElem?_eq_none (by simp; omega)] at hy; cases hy
      rw [this] at hy
      simp at hy
      subst hy
      rw [show i = n by omega]; exact hx
end
end Go.Proofs.Ytnbljcbfnplbaaa

/-
  Blocks that a call made itself: what they hold behind other calls and behind stores.
-/
namespace Go.Proofs.Ytnbljcbfnplbaaa
open Go.RowKit
/-! ### Blocks that the call made itself -/
theorem blk_lt {W : World} {F : Nat} {o : Obj} (h : W.heap[F]? = some o) : F < W.heap.size := by
  rcases Nat.lt_or_ge F W.heap.size with h' | h'
  · exact h'
  · simp [Array.getElem?_eq_none h'] at h
theorem blk_keep {W w1 : World} {F : Nat} {o : Obj} (hb : Below W.heap.size W w1) (h : W.heap[F]? = some o) : w1.heap[F]? = some o := by rw [hb.block F (blk_lt h)]; exact h
theorem blk_new (w : World) (o : Obj) : (w.alloc o).heap[w.heap.size]? = some o := heap_alloc_new w o
theorem blk_alloc {w : World} {F : Nat} {o : Obj} (h : w.heap[F]? = some o) (o' : Obj) : (w.alloc o').heap[F]? = some o := by rw [Below.heap_alloc w o' F (blk_lt h)]; exact h
theorem alloc2_fst (w : World) (o1 o2 : Obj) : ((w.alloc o1).alloc o2).heap[w.heap.size]? = some o1 := blk_alloc (blk_new w o1) o2
theorem alloc2_snd (w : World) (o1 o2 : Obj) : ((w.alloc o1).alloc o2).heap[w.heap.size + 1]? = some o2 := by
  have := blk_new (w.alloc o1) o2
  simpa using this
theorem blk_cell {w : World} {F : Nat} {cs : Array Value} {t : TypeId} (h : w.heap[F]? = some (.cells cs t)) (i : Nat) : w.cell? ⟨F, i, none⟩ = cs[i]? := cell_of_row _ _ _ _ _ (0, 0) h
theorem blk_frozen {w : World} {F : Nat} {cs : Array Value} {t : TypeId} (h : w.heap[F]? = some (.cells cs t)) (i : Nat) : w.frozen? ⟨F, i, none⟩ = false := frozen_of_row _ _ _ _ _ h
theorem blk_set {w : World} {F i : Nat} {cs : Array Value} {t : TypeId} (h : w.heap[F]? = some (.cells cs t)) (v : Value) : (w.setCell ⟨F, i, none⟩ v).heap[F]? = some (.cells (cs.setIfInBounds i v) t) := by
  simp [World.setCell, Array.getElem?_modify, h]
theorem blk_far {w : World} {F G i : Nat} {o : Obj} (h : w.heap[F]? = some o) (hne : F ≠ G) (v : Value) : (w.setCell ⟨G, i, none⟩ v).heap[F]? = some o := by
  rw [Below.heap_setCell _ _ _ _ hne]; exact h
theorem box3 {w : World} {F : Nat} {x y z : Value} {t : TypeId} (h : w.heap[F]? = some (.cells #[x, y, z] t)) :
    w.cell? ⟨F, 0, none⟩ = some x ∧ w.cell? ⟨F, 1, none⟩ = some y ∧ w.cell? ⟨F, 2, none⟩ = some z ∧ w.frozen? ⟨F, 0, none⟩ = false ∧ w.frozen? ⟨F, 1, none⟩ = false ∧ w.frozen? ⟨F, 2, none⟩ = false ∧ F < w.heap.size :=
  ⟨blk_cell h 0, blk_cell h 1, blk_cell h 2, blk_frozen h 0, blk_frozen h 1, blk_frozen h 2, blk_lt h⟩
theorem box2 {w : World} {F : Nat} {x y : Value} {t : TypeId} (h : w.heap[F]? = some (.cells #[x, y] t)) :
    w.cell? ⟨F, 0, none⟩ = some x ∧ w.cell? ⟨F, 1, none⟩ = some y ∧ w.frozen? ⟨F, 0, none⟩ = false ∧ w.frozen? ⟨F, 1, none⟩ = false ∧ F < w.heap.size :=
  ⟨blk_cell h 0, blk_cell h 1, blk_frozen h 0, blk_frozen h 1, blk_lt h⟩
/-- Three cells written one by one. -/
abbrev set3 (w : World) (F : Nat) (x y z : Value) : World := ((w.setCell ⟨F, 0, none⟩ x).setCell ⟨F, 1, none⟩ y).setCell ⟨F, 2, none⟩ z
theorem set3_blk {w : World} {F : Nat} {x y z : Value} {t : TypeId} (h : w.heap[F]? = some (.cells #[x, y, z] t)) (x' y' z' : Value) : (set3 w F x' y' z').heap[F]? = some (.cells #[x', y', z'] t) := blk_set (blk_set (blk_set h x') y') z'
theorem set3_below {B : Nat} {w0 w : World} {F : Nat} (h : Below B w0 w) (hF : B ≤ F) (x y z : Value) : Below B w0 (set3 w F x y z) := ((h.setCell (p := ⟨F, 0, none⟩) hF x).setCell (p := ⟨F, 1, none⟩) hF y).setCell (p := ⟨F, 2, none⟩) hF z
theorem set3_far {w : World} {F G : Nat} {o : Obj} (h : w.heap[F]? = some o) (hne : F ≠ G) (x y z : Value) : (set3 w G x y z).heap[F]? = some o := blk_far (blk_far (blk_far h hne x) hne y) hne z
abbrev set2 (w : World) (F : Nat) (x y : Value) : World := (w.setCell ⟨F, 0, none⟩ x).setCell ⟨F, 1, none⟩ y
theorem set2_blk {w : World} {F : Nat} {x y : Value} {t : TypeId} (h : w.heap[F]? = some (.cells #[x, y] t)) (x' y' : Value) : (set2 w F x' y').heap[F]? = some (.cells #[x', y'] t) := blk_set (blk_set h x') y'
theorem set2_below {B : Nat} {w0 w : World} {F : Nat} (h : Below B w0 w) (hF : B ≤ F) (x y : Value) : Below B w0 (set2 w F x y) := (h.setCell (p := ⟨F, 0, none⟩) hF x).setCell (p := ⟨F, 1, none⟩) hF y
theorem set2_far {w : World} {F G : Nat} {o : Obj} (h : w.heap[F]? = some o) (hne : F ≠ G) (x y : Value) : (set2 w G x y).heap[F]? = some o := blk_far (blk_far h hne x) hne y
theorem below0 (w : World) : Below w.heap.size w w := Below.refl _ _
theorem below1 (w : World) (o : Obj) : Below w.heap.size w (w.alloc o) := (Below.refl _ _).alloc (Nat.le_refl _) o
theorem below2 (w : World) (o1 o2 : Obj) : Below w.heap.size w ((w.alloc o1).alloc o2) := (below1 w o1).alloc (by simp) o2
theorem alloc2_below {w w1 : World} {o1 o2 : Obj} (hb : Below ((w.alloc o1).alloc o2).heap.size ((w.alloc o1).alloc o2) w1) : Below w.heap.size w w1 := (below2 w o1 o2).trans (hb.mono (by simp; omega))
theorem Below.many {B : Nat} {a w : World} (h : Below B a w) (n : Nat) : Below B a (w.drewN n) := ⟨h.os, h.tape, h.output, h.size, h.block⟩
/-- A scope with one label that is jumped to from ahead alone: the text behind the label stands at each jump. -/
theorem scope_fwd {P : Program} {c R : Code} {Q : Exit → Act → World → Prop} {a : Act} {w : World} (l : Nat) (hf : findLabel c l = some (.seq .skip R))
    (first : c.wp P (Exit.jump l (fun a w => R.wp P (Exit.jump l (fun _ _ => False) Q) a w) Q) a w) : (Code.scope c).wp P Q a w :=
  wp_scope_jumps l (fun a w => R.wp P (Exit.jump l (fun _ _ => False) Q) a w) (fun _ _ => 0) hf first fun a w h => wp_seq (wp_skip (Code.wp_mono (fun e a' w' q => by
    cases e with
    | goto l' => exact ⟨q.1, q.2.elim⟩
    | normal => exact q
    | exit id => exact q
    | ret => exact q
    | panic ch => exact q
    | outgrown => exact q) h))
/-- Three blocks that were made first. -/
theorem alloc3 (w : World) (o1 o2 o3 : Obj) : ((((w.alloc o1).alloc o2).alloc o3).heap[w.heap.size]? = some o1 ∧ (((w.alloc o1).alloc o2).alloc o3).heap[w.heap.size + 1]? = some o2 ∧
    (((w.alloc o1).alloc o2).alloc o3).heap[w.heap.size + 2]? = some o3) ∧ (((w.alloc o1).alloc o2).alloc o3).heap.size = w.heap.size + 3 ∧ Below w.heap.size w (((w.alloc o1).alloc o2).alloc o3) := by
  have h3 := blk_new ((w.alloc o1).alloc o2) o3
  refine ⟨⟨blk_alloc (alloc2_fst w o1 o2) o3, blk_alloc (alloc2_snd w o1 o2) o3, ?_⟩, by simp, (below2 w o1 o2).alloc (by simp; omega) o3⟩
  simpa using h3
theorem blk_many {w : World} {F : Nat} {o : Obj} (h : w.heap[F]? = some o) (n : Nat) : (w.drewN n).heap[F]? = some o := h
theorem own_many {w : World} {base : Nat} {e : TypeId} {size n : Nat} {v : Value} {xs : List Value} (h : w.ownsRow base e size v n xs) (k : Nat) : (w.drewN k).ownsRow base e size v n xs := h
theorem own_set3 {w : World} {base F : Nat} {e : TypeId} {size n : Nat} {v : Value} {xs : List Value} (h : w.ownsRow base e size v n xs) (hF : F < base) (x y z : Value) : (set3 w F x y z).ownsRow base e size v n xs :=
  ownsRow_setCell_below (ownsRow_setCell_below (ownsRow_setCell_below h (a := ⟨F, 0, none⟩) hF x) (a := ⟨F, 1, none⟩) hF y) (a := ⟨F, 2, none⟩) hF z
theorem blk_grown {w w1 : World} {row : Option Nat} {F : Nat} {o : Obj} (hg : w.grownBy w1 row) (h : w.heap[F]? = some o) (hne : row ≠ some F) : w1.heap[F]? = some o := by
  rw [hg.block F (blk_lt h) (fun e => hne e.symm)]; exact h
theorem blk_drawn {w : World} {F : Nat} {o : Obj} (h : w.heap[F]? = some o) : w.drew.heap[F]? = some o := h
theorem own_drawn {w : World} {base : Nat} {e : TypeId} {size n : Nat} {v : Value} {xs : List Value} (h : w.ownsRow base e size v n xs) : w.drew.ownsRow base e size v n xs := h
theorem wrap_id {x : Int} (h0 : -9223372036854775808 ≤ x) (h1 : x ≤ 9223372036854775807) : IntKind.i64.wrap x = x := by rw [IntKind.wrap_i64]; omega
theorem wrap64_id {x : Int} (h0 : -9223372036854775808 ≤ x) (h1 : x ≤ 9223372036854775807) : wrap64 x = x := by unfold wrap64; omega
end Go.Proofs.Ytnbljcbfnplbaaa

/-
  A world that is another but for one block.
-/
namespace Go.Proofs.Ytnbljcbfnplbaaa
open Go.RowKit
set_option linter.unusedVariables false
/-- 'w'' is 'w' but for block R, and for blocks that are new. -/
structure Only (R : Nat) (w w' : World) : Prop where
  os : w'.os = w.os
  tape : w'.tape = w.tape
  output : w'.output = w.output
  size : w.heap.size ≤ w'.heap.size
  block : ∀ k, k < w.heap.size → k ≠ R → w'.heap[k]? = w.heap[k]?
theorem Only.refl (R : Nat) (w : World) : Only R w w := ⟨rfl, rfl, rfl, Nat.le_refl _, fun _ _ _ => rfl⟩
theorem Only.trans {R : Nat} {a b c : World} (h : Only R a b) (k : Only R b c) : Only R a c :=
  ⟨k.os.trans h.os, k.tape.trans h.tape, k.output.trans h.output, Nat.le_trans h.size k.size, fun i hi hne => (k.block i (Nat.lt_of_lt_of_le hi h.size) hne).trans (h.block i hi hne)⟩
theorem Only.many {R : Nat} {a w : World} (h : Only R a w) (n : Nat) : Only R a (w.drewN n) := ⟨h.os, h.tape, h.output, h.size, h.block⟩
theorem Only.setCell {R : Nat} {a w : World} (h : Only R a w) (i : Nat) (v : Value) : Only R a (w.setCell ⟨R, i, none⟩ v) :=
  ⟨h.os, h.tape, h.output, by simpa [World.setCell] using h.size, fun k hk hne => by rw [Below.heap_setCell _ _ _ _ (by simpa using hne)]; exact h.block k hk hne⟩
theorem Only.of_below {R : Nat} {w w' : World} (h : Below w.heap.size w w') : Only R w w' := ⟨h.os, h.tape, h.output, h.size, fun k hk _ => h.block k hk⟩
theorem Only.below {R B : Nat} {w0 w w' : World} (h : Only R w w') (h0 : Below B w0 w) (hR : B ≤ R) (hB : B ≤ w.heap.size) : Below B w0 w' :=
  ⟨h.os.trans h0.os, h.tape.trans h0.tape, h.output.trans h0.output, Nat.le_trans h0.size h.size, fun k hk => (h.block k (Nat.lt_of_lt_of_le hk hB) (by omega)).trans (h0.block k hk)⟩
theorem Only.keep {R F : Nat} {w w' : World} {o : Obj} (h : Only R w w') (hF : w.heap[F]? = some o) (hne : F ≠ R) : w'.heap[F]? = some o := by rw [h.block F (blk_lt hF) hne]; exact hF
/-- A row of one's own that does not lie in block R. -/
theorem own_only {w w' : World} {R base : Nat} {e : TypeId} {size : Nat} {v : Value} {n : Nat} {xs : List Value} (h : w.ownsRow base e size v n xs) (hb : Only R w w') (hR : R < base) : w'.ownsRow base e size v n xs := by
  refine ⟨h.1, ?_⟩
  rcases h.2 with h2 | ⟨g, cap, cur, hv, hg, hh, r⟩
  · exact .inl h2
  · exact .inr ⟨g, cap, cur, hv, hg, by rw [hb.block g (Nat.lt_of_not_le fun hle => by rw [Array.getElem?_eq_none hle] at hh; cases hh) (by omega)]; exact hh, r⟩
end Go.Proofs.Ytnbljcbfnplbaaa

/-
  Slices of numbers.
-/
namespace Go.Proofs.Ytnbljcbfnplbaaa
open Go.RowKit
set_option linter.unusedVariables false
/-! ### Slices of numbers -/
def intV (n : Int) : Value := .int .i64 n
/-- What a slice of numbers reads. -/
def CellsI (w : World) (a : Option Addr) (ns : List Int) : Prop := RowAt w a (ns.map intV)
theorem CellsI.at {w : World} {a : Option Addr} {ns : List Int} (h : CellsI w a ns) {k : Nat} (hk : k < ns.length) : ∃ b off, a = some ⟨b, off, none⟩ ∧ b < w.heap.size ∧ w.cell? ⟨b, off + k, none⟩ = some (.int .i64 (ns[k]'hk)) := by
  refine RowAt.at h (u := .int .i64 (ns[k]'hk)) ?_
  rw [List.getElem?_map, List.getElem?_eq_getElem hk]
  rfl
theorem CellsI.below {w w1 : World} {a : Option Addr} {ns : List Int} (h : CellsI w a ns) (hb : Below w.heap.size w w1) : CellsI w1 a ns := RowAt.below h hb
/-- A slice of numbers that came in. -/
structure IntsIn (w : World) (a : Option Addr) (cap : Nat) (ns : List Int) : Prop where
  cells : CellsI w a ns
  cap : ns.length ≤ cap
  none_ : a = none → ns.length = 0
  wf : ∀ n ∈ ns, (Lit.int .i64 n).wf = true
theorem elemI : Elem Try.prog 27 3 (.int .i64 0) 1 8 := ⟨Try.underlying27, by kernel_rfl, rfl, by omega⟩
theorem intV_one (ns : List Int) : ∀ u ∈ ns.map intV, u.oneCell' = true := by
  intro u hu
  obtain ⟨b, _, rfl⟩ := List.mem_map.1 hu
  rfl
end Go.Proofs.Ytnbljcbfnplbaaa

/-
  Slices of numbers among the arguments.
-/
namespace Go.Proofs.Ytnbljcbfnplbaaa
open Go.RowKit
open Go.ChangeShapes Go.WideShapes Go.Deep Go.Joins
theorem row_ints {w : World} {a : Option Addr} {len cap : Nat} {zs : List Int}
    (h : (a = none ∧ len = 0 ∧ cap = 0 ∧ zs = []) ∨ ∃ x, a = some x ∧ len ≤ cap ∧ cap ≤ maxLen ∧ zs.length = cap ∧ (∀ i, i < zs.length → w.cell? (x.add i) = some (.int .i64 (zs.getD i 0))) ∧ ∀ n ∈ zs, (Lit.int .i64 n).wf = true) :
    ∃ ns : List Int, len = ns.length ∧ IntsIn w a cap ns := by
  rcases h with ⟨rfl, rfl, rfl, rfl⟩ | ⟨x, rfl, hl, hm, hz, hc, hw⟩
  · exact ⟨[], rfl, ⟨RowAt.nil, Nat.le_refl _, fun _ => rfl, fun n hn => by cases hn⟩⟩
  · have hlen : (zs.take len).length = len := by rw [List.length_take]; omega
    refine ⟨zs.take len, hlen.symm, ⟨?_, by omega, (fun h => by cases h), fun n hn => hw n (List.mem_of_mem_take hn)⟩⟩
    by_cases h0 : len = 0
    · subst h0
      exact .inl (by simp)
    · obtain ⟨b, off, spot⟩ := x
      have h1 := hc 0 (by omega)
      have hspot : spot = none := by simpa [Addr.add] using World.cell?_spot h1
      subst hspot
      have hadd : ∀ j, (⟨b, off, none⟩ : Addr).add j = ⟨b, off + j, none⟩ := fun j => by unfold Addr.add; split <;> simp_all
      refine .inr ⟨b, off, rfl, ?_, fun i u hi => ?_⟩
      · rw [hadd] at h1
        exact block_lt_of_cell h1
      · have hi1 : i < (zs.take len).length := by
          rcases Nat.lt_or_ge i (zs.take len).length with h | h
          · exact h
          · rw [List.getElem?_eq_none (by rw [List.length_map]; exact h)] at hi; cases hi
        rw [List.length_take] at hi1
        have hi2 : i < zs.length := by omega
        rw [List.getElem?_map, List.getElem?_take, if_pos (by omega), List.getElem?_eq_getElem hi2] at hi
        have hu : intV zs[i] = u := by simpa using hi
        rw [← hu, ← hadd, hc i hi2, List.getD_eq_getElem?_getD, List.getElem?_eq_getElem hi2]
        rfl
section
variable {H : Type} {enc : TypeId × Value → H} {w : World}
theorem open_ints_cells {fuel : Nat} {v : Value} {y : DataW H × List MemPlace} (h : DataW.trod enc Try.prog w 0 (fun _ => true) true fuel 27 [v] = some y) :
    ∃ a cap ns, v = .slice a ns.length cap ∧ IntsIn w a cap ns := by
  rcases open_ints Try.underlying27 Try.underlying3 (by kernel_rfl) h with ⟨hcs, _⟩ | ⟨x, l, c, zs, hcs, _, hl, hm, hz, _, hcell, hwz⟩
  · simp at hcs
    subst hcs
    exact ⟨none, 0, [], rfl, ⟨RowAt.nil, Nat.le_refl _, fun _ => rfl, fun n hn => by cases hn⟩⟩
  · simp at hcs
    subst hcs
    obtain ⟨ns, h1, h2⟩ := row_ints (w := w) (a := some x) (len := l) (cap := c) (zs := zs) (.inr ⟨x, rfl, hl, hm, by simpa using hz, hcell, hwz⟩)
    subst h1
    exact ⟨some x, c, ns, rfl, h2⟩
set_option maxRecDepth 100000 in
theorem open_ints_arg {r : Reach} {b0 : Nat} {v : Value} {d : DataW H} {p : List MemPlace} (hv : Value.okWide Try.prog w r b0 27 v) (h : DataW.Trod enc Try.prog w 0 (fun _ => true) true 27 v d p) :
    ∃ a cap ns, v = .slice a ns.length cap ∧ IntsIn w a cap ns := by
  obtain ⟨a, l, c, rfl⟩ := okWide_slice Try.underlying27 hv
  obtain ⟨fuel, hf⟩ := h
  exact open_ints_cells (by simpa [Value.cells] using hf)
end
end Go.Proofs.Ytnbljcbfnplbaaa
