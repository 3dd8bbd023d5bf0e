/-
  Maps from numbers, whose elements read as themselves.
-/
import Derived.Test.YthjdbmfobmnnlaaGreatBe
import Derived.Maps.OwnSet
import Derived.Maps.Keyed
namespace Go.Proofs.YthjdbmfobmnnlaaGreat
open Go.RowKit
open Go.Maps (Keyed)
set_option linter.unusedVariables false
/-- The elements of a map read as themselves. -/
abbrev HV : Value → Option (DataW Value × List MemPlace) := fun v => some (.held v, [])
/-- A map of these stores, the last one first. -/
def mapI : List (Int × Value) → DataW Value
  | [] => .map []
  | p :: l => (mapI l).put (.int .i64 p.1) (.held p.2)
def lookI : List (Int × Value) → Int → Option Value
  | [], _ => none
  | p :: l, k => if p.1 = k then some p.2 else lookI l k
theorem mapI_isMap : ∀ l, Maps.IsMap (mapI l)
  | [] => Maps.isMap_empty
  | p :: l => (mapI_isMap l).put _ _
theorem intKeyI {k : Int} (h : (Lit.int .i64 k).wf = true) : keyOf Tryz.prog 3 (.int .i64 k) = some (.int .i64 k) := Maps.keyOf_int_mk Tryz.underlying3 h
theorem keyedI : Keyed Tryz.prog 3 := Maps.int_keyed Tryz.underlying3
theorem mapI_at {k : Int} (hk : (Lit.int .i64 k).wf = true) (z : Value) : ∀ l, (mapI l).atKey (.int .i64 k) (.held z) = .held ((lookI l k).getD z)
  | [] => by simp [mapI, lookI, DataW.atKey]
  | p :: l => by
    unfold mapI lookI
    by_cases h : p.1 = k
    · rw [if_pos h, h, Maps.atKey_put_same (mapI_isMap l) (keyedI.key (intKeyI hk))]
      rfl
    · rw [if_neg h, Maps.atKey_put_other (fun e => h (by injection e with _ e2; exact e2.symm)), mapI_at hk z l]
/-- Block M is a map from numbers. -/
def IMap (w : World) (M n : Nat) (l : List (Int × Value)) : Prop := w.ownsMap Tryz.prog 3 HV M n (mapI l)
theorem IMap.lt {w : World} {M n : Nat} {l : List (Int × Value)} (h : IMap w M n l) : M < w.heap.size := World.ownsMap.lt h
theorem IMap.made (w : World) : IMap (w.alloc (.map #[] 0)) w.heap.size 0 [] := World.ownsMap_made w _ _ _
theorem IMap.chg {S : List Nat} {w w' : World} {M n : Nat} {l : List (Int × Value)} (h : IMap w M n l) (hc : Chg S w w') (hne : M ∉ S) : IMap w' M n l := by
  have hlt := h.lt
  obtain ⟨es, clock, hb, r⟩ := h
  exact ⟨es, clock, by rw [hc.block M hlt hne]; exact hb, r⟩
set_option maxRecDepth 100000 in
theorem IMap.look {w : World} {M n : Nat} {l : List (Int × Value)} (h : IMap w M n l) {t e : TypeId} (ht : (Tryz.prog).underlying t = some (.map 3 e)) {z : Value} (hz : (zeroValue e).run Tryz.prog w = .ok z w) (k : Int) (hw : (Lit.int .i64 k).wf = true) :
    (Instr.lookup t (.map (some M)) (.int .i64 k) false).run Tryz.prog w = .ok ((lookI l k).getD z) w := by
  obtain ⟨v, ps, hrun, hv⟩ := World.ownsMap.lookup h keyedI ht hz (zd := .held z) (zp := []) rfl (intKeyI hw)
  rw [hrun]
  rw [mapI_at hw] at hv
  injection hv with hv
  injection hv with hv _
  injection hv with hv
  rw [hv]
theorem turned_chg {w w' : World} {M : Nat} (h : w.mapTurned w' M) : Chg [M] w w' := by
  have := h.grown
  exact (Chg.refl [M] w).grown this fun x hx => by cases hx; exact .inl (by simp)
set_option maxRecDepth 100000 in
theorem wpList_insertI {w : World} {ops : Array Oper} {rest : List Oper} {o : Oper} {a : Act} {Q : Exit → Act → World → Prop} (hgd : o.guard = none) (t e : TypeId) (x k v : Operand)
    (ho : o.op = .insert t x k v) (ht : (Tryz.prog).underlying t = some (.map 3 e)) {M n : Nat} {i : Int} {l : List (Int × Value)} {u : Value} (hx : a.eval x = .map (some M)) (hk : a.eval k = .int .i64 i) (hv : a.eval v = u)
    (hm : IMap w M n l) (hw : (Lit.int .i64 i).wf = true) (hl : n < maxLen)
    (h : ∀ w', IMap w' M (n + 1) ((i, u) :: l) → Chg [M] w w' → wpList Tryz.prog ops Q rest (a.put o.dst undef) w') : wpList Tryz.prog ops Q (o :: rest) a w :=
  wpList_plain hgd fun K hK => by
    obtain ⟨w', hrun, h2, h3⟩ := World.ownsMap.store hm keyedI ht hl (intKeyI hw) (val := u) (d := .held u) (ps := []) rfl
    unfold Oper.wp
    simp only [execOp, ho, hx, hk, hv, hrun, Sem.run_bind, Sem.run_pure, Result.andThen_ok]
    exact hK _ _ (h w' h2 (turned_chg h3))
set_option maxRecDepth 100000 in
theorem wpList_updateI {w : World} {ops : Array Oper} {rest : List Oper} {o : Oper} {a : Act} {Q : Exit → Act → World → Prop} (hgd : o.guard = none) (t e : TypeId) (x k v : Operand)
    (ho : o.op = .mapUpdate t x k v) (ht : (Tryz.prog).underlying t = some (.map 3 e)) {M n : Nat} {i : Int} {l : List (Int × Value)} {u : Value} (hx : a.eval x = .map (some M)) (hk : a.eval k = .int .i64 i) (hv : a.eval v = u)
    (hm : IMap w M n l) (hw : (Lit.int .i64 i).wf = true) (hl : n < maxLen)
    (h : ∀ w', IMap w' M (n + 1) ((i, u) :: l) → Chg [M] w w' → wpList Tryz.prog ops Q rest (a.put o.dst undef) w') : wpList Tryz.prog ops Q (o :: rest) a w :=
  wpList_plain hgd fun K hK => by
    obtain ⟨w', hrun, h2, h3⟩ := World.ownsMap.store hm keyedI ht hl (intKeyI hw) (val := u) (d := .held u) (ps := []) rfl
    unfold Oper.wp
    simp only [execOp, ho, hx, hk, hv, hrun, Sem.run_bind, Sem.run_pure, Result.andThen_ok]
    exact hK _ _ (h w' h2 (turned_chg h3))
theorem IMap.alloc {w : World} {M n : Nat} {l : List (Int × Value)} (h : IMap w M n l) (o : Obj) : IMap (w.alloc o) M n l := World.ownsMap.alloc h o
theorem IMap.below {w w' : World} {M n : Nat} {l : List (Int × Value)} (h : IMap w M n l) (hb : Below w.heap.size w w') : IMap w' M n l := h.chg (Chg.of_below hb : Chg [] w w') (by simp)
end Go.Proofs.YthjdbmfobmnnlaaGreat
