/-
  A map from kinds to methods.
-/
import Derived.Test.YtlejbhgginolgaaRaftK
namespace Go.Proofs.Ytlejbhgginolgaa
open Go.RowKit
set_option linter.unusedVariables false
open Go.Maps (Keyed)
/-- How a method of the member in block b, as a value, reads: by its number. -/
def FRl (b n : Nat) : List Value → List Value → Option (DataW Unit × List MemPlace)
  | [.pointer (some ⟨b', 0, none⟩)], [] => if b' = b then some (.lit (.int .i64 (n : Nat)), []) else none
  | _, _ => none
def FR (b : Nat) : Value → Option (DataW Unit × List MemPlace)
  | .func (.func n) f c => FRl b n f.toList c.toList
  | .nilFunc => some (.lit (.bool false), [])
  | _ => none
theorem FRl_inv {b n : Nat} {f c : List Value} {z : DataW Unit × List MemPlace} (h : FRl b n f c = some z) : f = [.pointer (some ⟨b, 0, none⟩)] ∧ c = [] ∧ z.1 = .lit (.int .i64 (n : Nat)) := by
  unfold FRl at h
  split at h
  · split at h
    · rename_i e
      subst e
      injection h with h
      subst h
      exact ⟨rfl, rfl, rfl⟩
    · cases h
  · cases h
theorem FR_mk (b n : Nat) : FR b (.func (.func n) #[.pointer (some ⟨b, 0, none⟩)] #[]) = some (.lit (.int .i64 (n : Nat)), []) := by
  show (if b = b then some ((.lit (.int .i64 (n : Nat)) : DataW Unit), ([] : List MemPlace)) else none) = _
  rw [if_pos rfl]
theorem FR_inv {b : Nat} {v : Value} {z : DataW Unit × List MemPlace} (h : FR b v = some z) : (∃ n : Nat, v = .func (.func n) #[.pointer (some ⟨b, 0, none⟩)] #[] ∧ z.1 = .lit (.int .i64 (n : Nat))) ∨ (v = .nilFunc ∧ z.1 = .lit (.bool false)) := by
  unfold FR at h
  split at h
  · rename_i n f c
    obtain ⟨h1, h2, h3⟩ := FRl_inv h
    have e1 : f = #[.pointer (some ⟨b, 0, none⟩)] := by rw [← Array.toArray_toList (xs := f), h1]
    have e2 : c = #[] := by rw [← Array.toArray_toList (xs := c), h2]
    exact .inl ⟨n, by rw [e1, e2], h3⟩
  · injection h with h
    subst h
    exact .inr ⟨rfl, rfl⟩
  · cases h
def funD (l : List (Int × Nat)) : DataW Unit := l.foldl (fun D p => D.put (.int .i64 p.1) (.lit (.int .i64 (p.2 : Nat)))) (.map [])
theorem funD_snoc (l : List (Int × Nat)) (p : Int × Nat) : funD (l ++ [p]) = (funD l).put (.int .i64 p.1) (.lit (.int .i64 (p.2 : Nat))) := by simp [funD, List.foldl_append]
/-- A map from numbers to methods. -/
def FunsAt (w : World) (M b : Nat) (l : List (Int × Nat)) : Prop := w.ownsMap Try.prog 3 (FR b) M l.length (funD l)
theorem FunsAt.chg {S : List Nat} {w w' : World} {M b : Nat} {l : List (Int × Nat)} (h : FunsAt w M b l) (hc : Chg S w w') (hne : M ∉ S) : FunsAt w' M b l := by
  have hlt := World.ownsMap.lt h
  obtain ⟨es, clock, hb, r⟩ := h
  exact ⟨es, clock, by rw [hc.block M hlt hne]; exact hb, r⟩
theorem intKey {k : Int} (h : (Lit.int .i64 k).wf = true) : keyOf Try.prog 3 (.int .i64 k) = some (.int .i64 k) := Maps.keyOf_int_mk Try.underlying3 h
set_option maxRecDepth 100000 in
theorem wpList_insertF {w : World} {ops : Array Oper} {rest : List Oper} {o : Oper} {a : Act} {Q : Exit → Act → World → Prop} (hgd : o.guard = none) (x k v : Operand)
    (ho : o.op = .insert 73 x k v) {M b n : Nat} {i : Int} {l : List (Int × Nat)} (hx : a.eval x = .map (some M)) (hk : a.eval k = .int .i64 i) (hv : a.eval v = .func (.func n) #[.pointer (some ⟨b, 0, none⟩)] #[])
    (hm : FunsAt w M b l) (hw : (Lit.int .i64 i).wf = true) (hl : l.length < maxLen)
    (h : ∀ w', FunsAt w' M b (l ++ [(i, n)]) → Chg [M] w w' → wpList Try.prog ops Q rest (a.put o.dst undef) w') : wpList Try.prog ops Q (o :: rest) a w :=
  wpList_plain hgd fun K hK => by
    obtain ⟨w', hrun, h2, h3⟩ := World.ownsMap.store hm voteK Try.underlying73 hl (intKey hw) (FR_mk b n)
    have h4 : FunsAt w' M b (l ++ [(i, n)]) := by
      unfold FunsAt
      rw [funD_snoc, List.length_append]
      exact h2
    unfold Oper.wp
    simp only [execOp, ho, hx, hk, hv, hrun, Sem.run_bind, Sem.run_pure, Result.andThen_ok]
    exact hK _ _ (h w' h4 (VotesAt.turned h3))
set_option maxRecDepth 100000 in
theorem FunsAt.look {w : World} {M b : Nat} (n0 n1 n2 n3 : Nat) (h : FunsAt w M b [(0, n0), (1, n1), (2, n2), (3, n3)]) (k : Int) (hw : (Lit.int .i64 k).wf = true) :
    (Instr.lookup 73 (.map (some M)) (.int .i64 k) false).run Try.prog w = .ok (if k = 0 then .func (.func n0) #[.pointer (some ⟨b, 0, none⟩)] #[] else if k = 1 then .func (.func n1) #[.pointer (some ⟨b, 0, none⟩)] #[] else if k = 2 then .func (.func n2) #[.pointer (some ⟨b, 0, none⟩)] #[] else if k = 3 then .func (.func n3) #[.pointer (some ⟨b, 0, none⟩)] #[] else .nilFunc) w := by
  have hz : (zeroValue 49).run Try.prog w = .ok .nilFunc w := by kernel_rfl
  obtain ⟨v, ps, hrun, hv⟩ := World.ownsMap.lookup h voteK Try.underlying73 hz (zd := .lit (.bool false)) (zp := []) rfl (intKey hw)
  rw [hrun]
  congr 1
  have hD : funD [(0, n0), (1, n1), (2, n2), (3, n3)] = ((((DataW.map []).put (.int .i64 0) (.lit (.int .i64 (n0 : Nat)))).put (.int .i64 1) (.lit (.int .i64 (n1 : Nat)))).put (.int .i64 2) (.lit (.int .i64 (n2 : Nat)))).put (.int .i64 3) (.lit (.int .i64 (n3 : Nat))) := rfl
  rw [hD] at hv
  have key : ∀ i : Int, (Lit.int .i64 i).wf = true → WideAt.IsKeyLit (.int .i64 i) := fun i hi => voteK.key (intKey hi)
  have ne : ∀ {i j : Int}, i ≠ j → Lit.int .i64 i ≠ Lit.int .i64 j := fun h e => h (by injection e)
  have fin : ∀ n : Nat, FR b v = some (.lit (.int .i64 (n : Nat)), ps) → v = .func (.func n) #[.pointer (some ⟨b, 0, none⟩)] #[] := fun n hn => by
    rcases FR_inv hn with ⟨n', h1, h2⟩ | ⟨_, h2⟩
    · simp only at h2
      injection h2 with h2
      injection h2 with _ h2
      rw [h1]
      have : n = n' := by omega
      rw [this]
    · simp only at h2
      injection h2 with h2
      cases h2
  by_cases h0 : k = 0
  · subst h0
    rw [if_pos rfl]
    rw [Maps.atKey_put_other (ne (by omega)), Maps.atKey_put_other (ne (by omega)), Maps.atKey_put_other (ne (by omega)), Maps.atKey_put_same Maps.isMap_empty (key 0 (by decide))] at hv
    exact fin _ hv
  rw [if_neg h0]
  by_cases h1 : k = 1
  · subst h1
    rw [if_pos rfl]
    rw [Maps.atKey_put_other (ne (by omega)), Maps.atKey_put_other (ne (by omega)), Maps.atKey_put_same (Maps.isMap_empty.put _ _) (key 1 (by decide))] at hv
    exact fin _ hv
  rw [if_neg h1]
  by_cases h2 : k = 2
  · subst h2
    rw [if_pos rfl]
    rw [Maps.atKey_put_other (ne (by omega)), Maps.atKey_put_same ((Maps.isMap_empty.put _ _).put _ _) (key 2 (by decide))] at hv
    exact fin _ hv
  rw [if_neg h2]
  by_cases h3 : k = 3
  · subst h3
    rw [if_pos rfl]
    rw [Maps.atKey_put_same (((Maps.isMap_empty.put _ _).put _ _).put _ _) (key 3 (by decide))] at hv
    exact fin _ hv
  rw [if_neg h3]
  rw [Maps.atKey_put_other (ne h3), Maps.atKey_put_other (ne h2), Maps.atKey_put_other (ne h1), Maps.atKey_put_other (ne h0)] at hv
  rcases FR_inv hv with ⟨n', _, h2⟩ | ⟨h1, _⟩
  · simp [DataW.atKey] at h2
  · exact h1
end Go.Proofs.Ytlejbhgginolgaa
