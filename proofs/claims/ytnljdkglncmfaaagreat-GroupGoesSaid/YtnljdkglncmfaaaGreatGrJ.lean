/-
  An item is done.
-/
import Derived.Test.YtnljdkglncmfaaaGreatGrG
import Derived.Test.YtnljdkglncmfaaaGreatGrH
import Derived.Test.YtnljdkglncmfaaaGreatGrI
namespace Go.Proofs.YtnljdkglncmfaaaGreat
open Go.RowKit
set_option linter.unusedVariables false
theorem msg_idx {g : Gr} {k : Nat} {x : Ms} (hx : g.net[k]? = some x) : g.msg k = x := by
  unfold Gr.msg
  rw [List.getD_eq_getElem?_getD, hx]
  rfl
/-- An item is done. -/
theorem do_any {w : World} {G : Nat} {L : GL} {g : Gr} (hgo : GrOk g) (h : GAt w G L g) (k a b c : Int) (hnet : g.net.length ≤ 1000000) :
    Calls Tryz.prog 12 #[.pointer (some ⟨G, 0, none⟩), itV k a b c] w (RetE (g.does k a b c) G L w) := by
  by_cases ht : g.there k a = 0
  rotate_left 1
  · have e : g.does k a b c = (g, g.there k a) := if_pos ht
    rw [e]
    exact do_not h k a b c ht
  have hk := GrOk.there_kind ht
  have mem : ∀ (hk : k = 0 ∨ k = 1 ∨ k = 2 ∨ k = 6), ∃ (i : Nat) (q : ML) (p : Mb × Vt), a = (i : Int) + 1 ∧ L.mem[i]? = some q ∧ g.ms[i]? = some p := fun hk => by
    obtain ⟨i, e, hi⟩ := there_in ht hk
    obtain ⟨q, hq⟩ := h.slots hi
    exact ⟨i, q, _, e, hq, List.getElem?_eq_getElem hi⟩
  have msg : ∀ (hk : k = 3 ∨ k = 4 ∨ k = 5 ∨ k = 7), ∃ (j : Nat) (x : Ms), a = (j : Int) ∧ g.net[j]? = some x ∧ j < g.net.length := fun hk => by
    obtain ⟨h1, h2⟩ := GrOk.there_msg ht hk
    exact ⟨a.toNat, _, by omega, List.getElem?_eq_getElem h2, h2⟩
  have kc : k = 0 ∨ k = 1 ∨ k = 2 ∨ k = 3 ∨ k = 4 ∨ k = 5 ∨ k = 6 ∨ k = 7 := by omega
  unfold Gr.does
  rw [if_neg (by simp [ht])]
  rcases kc with rfl | rfl | rfl | rfl | rfl | rfl | rfl | rfl
  · obtain ⟨i, q, p, rfl, hq, hp⟩ := mem (by omega)
    rw [if_pos rfl, at_idx hp]
    exact do_timeout hgo h i hq hp b c hnet ht
  · obtain ⟨i, q, p, rfl, hq, hp⟩ := mem (by omega)
    rw [if_neg (by decide), if_pos rfl, at_idx hp]
    exact do_beat hgo h i hq hp b c hnet ht
  · obtain ⟨i, q, p, rfl, hq, hp⟩ := mem (by omega)
    rw [if_neg (by decide), if_neg (by decide), if_pos rfl]
    exact do_propose hgo h i hq hp b c hnet ht
  · obtain ⟨j, x, rfl, hx, hj⟩ := msg (by omega)
    rw [if_neg (by decide), if_neg (by decide), if_neg (by decide), if_pos rfl, Int.toNat_natCast, msg_idx hx]
    exact do_deliver hgo h j hx b c hnet ht
  · obtain ⟨j, x, rfl, hx, hj⟩ := msg (by omega)
    rw [if_neg (by decide), if_neg (by decide), if_neg (by decide), if_neg (by decide), if_pos rfl, Int.toNat_natCast]
    exact do_lose h j hj b c hnet ht
  · obtain ⟨j, x, rfl, hx, hj⟩ := msg (by omega)
    rw [if_neg (by decide), if_neg (by decide), if_neg (by decide), if_neg (by decide), if_neg (by decide), if_pos rfl, Int.toNat_natCast, msg_idx hx]
    exact do_double h j hx b c hnet ht
  · obtain ⟨i, q, p, rfl, hq, hp⟩ := mem (by omega)
    rw [if_neg (by decide), if_neg (by decide), if_neg (by decide), if_neg (by decide), if_neg (by decide), if_neg (by decide), if_pos rfl]
    exact do_crash hgo h i hp b c ht
  · obtain ⟨j, x, rfl, hx, hj⟩ := msg (by omega)
    rw [if_neg (by decide), if_neg (by decide), if_neg (by decide), if_neg (by decide), if_neg (by decide), if_neg (by decide), if_neg (by decide), Int.toNat_natCast, msg_idx hx]
    exact do_torn hgo h j hx b c hnet ht
end Go.Proofs.YtnljdkglncmfaaaGreat
