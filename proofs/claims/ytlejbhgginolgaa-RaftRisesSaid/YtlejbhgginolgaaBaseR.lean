/-
  Helpers that more than one layer uses: rows of one's own, blocks of two cells, append at a step of a region that draws.
-/
import Derived.Test.YtlejbhgginolgaaBase
import Derived.Deep.RegionWith
import Derived.Deep.RegionHeld3
import Derived.Deep.DeepCutAuto
import Derived.Deep.DrawnRows
namespace Go.Proofs.Ytlejbhgginolgaa
open Go.RowKit
def b8 (n : Nat) : UInt8 := UInt8.ofNat n
theorem b8_toNat (n : Nat) (h : n < 256) : (b8 n).toNat = n := UInt8.toNat_ofNat_of_lt' h
theorem b8_mod (n : Nat) : (b8 n).toNat = n % 256 := rfl
theorem own_lit1 {w : World} {base : Nat} {e : TypeId} {size : Nat} (o : Obj) (cs : Array Value) (n : Nat) (hb : base ≤ w.heap.size + 1) (hm : n ≤ maxLen) (hs : cs.size = n * size) :
    ((w.alloc o).alloc (.cells cs e)).ownsRow base e size (.slice (some ⟨w.heap.size + 1, 0, none⟩) n n) n cs.toList := by
  have h := World.ownsRow_lit (base := base) (e := e) (size := size) (w.alloc o) cs n (by simpa using hb) hm hs
  have e1 : (w.alloc o).heap.size = w.heap.size + 1 := by simp
  rwa [e1] at h
/-- A row and an error. -/
def RetRowE (e : TypeId) (size n : Nat) (xs : List Value) (err : Int) (w : World) (en : Ending) (w' : World) : Prop :=
  ∃ a cap, en = .returned (.tuple #[.slice a n cap, .int .i64 err]) ∧ w'.ownsRow w.heap.size e size (.slice a n cap) n xs ∧ Below w.heap.size w w'
theorem own_from {w : World} {base : Nat} {e : TypeId} {size n cap : Nat} {A : Option Addr} {xs : List Value} (h : w.ownsRow base e size (.slice A n cap) n xs) : n ≠ 0 → ∀ b off, A = some ⟨b, off, none⟩ → base ≤ b := fun h0 b off ha => by
  obtain ⟨g, c, hv, hb, _⟩ := h.form (by omega)
  cases hv
  cases ha
  exact hb
/-- A block of two cells that was made ahead of what followed. -/
theorem two_cells {w w1 : World} {x y : Value} {t : TypeId} (hb : Below (w.alloc (.cells #[x, y] t)).heap.size (w.alloc (.cells #[x, y] t)) w1) :
    w1.cell? ⟨w.heap.size, 0, none⟩ = some x ∧ w1.cell? ⟨w.heap.size, 1, none⟩ = some y ∧ w1.frozen? ⟨w.heap.size, 0, none⟩ = false ∧ w1.frozen? ⟨w.heap.size, 1, none⟩ = false ∧ w.heap.size < w1.heap.size := by
  have hs : w.heap.size < (w.alloc (.cells #[x, y] t)).heap.size := by simp
  have e : ∀ i, w1.cell? ⟨w.heap.size, i, none⟩ = (#[x, y] : Array Value)[i]? := fun i => by
    rw [hb.cell (p := ⟨w.heap.size, i, none⟩) hs]
    exact cell_of_row _ _ _ _ _ (0, 0) (heap_alloc_new w _)
  have g : ∀ i, w1.frozen? ⟨w.heap.size, i, none⟩ = false := fun i => by
    rw [hb.frozen (p := ⟨w.heap.size, i, none⟩) hs]
    exact frozen_of_row _ _ _ _ _ (heap_alloc_new w _)
  exact ⟨e 0, e 1, g 0, g 1, Nat.lt_of_lt_of_le hs hb.size⟩
theorem alloc_below {w w1 : World} {o : Obj} (hb : Below (w.alloc o).heap.size (w.alloc o) w1) : Below w.heap.size w w1 := ((Below.refl _ _).alloc (Nat.le_refl _) o).trans (hb.mono (by simp))
theorem byte_cell {bs : List UInt8} {k : Nat} (hk : k < bs.length) : (bs.map byteV)[k]? = some (.int .u8 ((bs.getD k 0).toNat : Int)) := by
  rw [List.getElem?_map, List.getElem?_eq_getElem hk, List.getD_eq_getElem?_getD, List.getElem?_eq_getElem hk]
  rfl
theorem own_lt {w : World} {base : Nat} {e : TypeId} {size : Nat} {v : Value} {n : Nat} {xs : List Value} (h : w.ownsRow base e size v n xs) : ∀ g, v.ownBlock = some g → g < w.heap.size := fun g hg => (h.lt g hg).2
section
variable {P : Program} {w : World} {t e : TypeId} {z : Value} {size bytes : Nat}
/-- At a step of a region that draws its order. -/
theorem step_append_row {ops : Array Oper} {o : Oper} {a : Act} {K : Act → World → Prop} {Q : Exit → Act → World → Prop} {E0 : Prop} (hgd : o.guard = none) (s x : Operand)
    (ho : o.op = .call { callee := .builtin .append, args := #[s, x], argTypes := #[t, t] }) (E : Elem P t e z size bytes) (base : Nat)
    (v : Value) (n : Nat) (xs : List Value) (hs : a.eval s = v) (hown : w.ownsRow base e size v n xs) (A : Option Addr) (m c : Nat) (news : List Value) (hx : a.eval x = .slice A m c) (hl : news.length = m * size) (hr : RowAt w A news) (h1 : ∀ u ∈ news, u.oneCell' = true)
    (h63 : n + m ≤ maxLen) (hbytes : (n + m) * bytes ≤ 140737488355328) (hbase : base ≤ w.heap.size) (hnz : A = none → m = 0)
    (h : ∀ a' c' w', w'.ownsRow base e size (.slice a' (n + m) c') (n + m) (xs ++ news) → w.grownBy w' v.ownBlock → ((Value.slice a' (n + m) c').ownBlock = v.ownBlock ∨ (Value.slice a' (n + m) c').ownBlock = some w.heap.size) → K (a.put o.dst (.slice a' (n + m) c')) w') :
    if Region.wanted o (yielded ops a.tmps) = true then Oper.wp P o a w K Q else E0 := by
  have hw : Region.wanted o (yielded ops a.tmps) = true := by simp [Region.wanted, hgd]
  rw [if_pos hw]
  exact wp_append_row s x ho E base v n xs hs hown A m c news hx hl hr h1 h63 hbytes hbase hnz h
end
end Go.Proofs.Ytlejbhgginolgaa
