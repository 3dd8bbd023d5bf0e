/-
  Layer 6: the plain law of what more than half have.
-/
import Derived.Test.YtlejbhgginolgaaBase
namespace Go.Proofs.Ytlejbhgginolgaa
open Go.RowKit
set_option linter.unusedVariables false
/-- How many of some have an index. -/
def heldN (ns : List Int) (i : Int) : Nat := ns.countP fun m => decide (i ≤ m)
theorem heldN_le (ns : List Int) (i : Int) : heldN ns i ≤ ns.length := List.countP_le_length
theorem heldN_snoc (ns : List Int) (m i : Int) : heldN (ns ++ [m]) i = heldN ns i + if i ≤ m then 1 else 0 := by
  unfold heldN
  rw [List.countP_append, List.countP_singleton]
  by_cases h : i ≤ m <;> simp [h]
theorem heldN_anti {ns : List Int} {i j : Int} (h : i ≤ j) : heldN ns j ≤ heldN ns i := by
  unfold heldN
  exact List.countP_mono_left fun x _ hx => by simp at hx ⊢; omega
/-- How many of so many are more than half. -/
def majN (n : Nat) : Nat := n / 2 + 1
abbrev sortI (ns : List Int) : List Int := ns.mergeSort fun x y => decide (x ≤ y)
theorem sortI_length (ns : List Int) : (sortI ns).length = ns.length := List.length_mergeSort ns
theorem sortI_perm (ns : List Int) : (sortI ns).Perm ns := List.mergeSort_perm ns _
theorem sortI_sorted (ns : List Int) : (sortI ns).Pairwise (fun x y => x ≤ y) := by
  have := List.pairwise_mergeSort (le := fun x y : Int => decide (x ≤ y)) (fun a b c h1 h2 => by simp at *; omega) (fun a b => by simp; omega) ns
  exact this.imp (fun h => by simpa using h)
theorem heldN_sort (ns : List Int) (i : Int) : heldN (sortI ns) i = heldN ns i := (sortI_perm ns).countP_eq _
/-- The greatest one that a majority has. -/
def mostL (ns : List Int) : Int := if ns.length = 0 then 0 else (sortI ns).getD (ns.length - majN ns.length) 0
theorem most_spec {ns : List Int} (h : ns.length ≠ 0) : mostL ns ∈ ns ∧ majN ns.length ≤ heldN ns (mostL ns) ∧ ∀ x, mostL ns < x → heldN ns x < majN ns.length := by
  have hl := sortI_length ns
  have hs := sortI_sorted ns
  have hq : majN ns.length ≤ ns.length := by unfold majN; omega
  have hq0 : 0 < majN ns.length := by unfold majN; omega
  have hi : ns.length - majN ns.length < (sortI ns).length := by omega
  have hv : mostL ns = (sortI ns)[ns.length - majN ns.length] := by
    unfold mostL
    rw [if_neg h, List.getD_eq_getElem?_getD, List.getElem?_eq_getElem hi]
    rfl
  rw [hv]
  refine ⟨(sortI_perm ns).mem_iff.1 (List.getElem_mem hi), ?_, ?_⟩
  · rw [← heldN_sort]
    unfold heldN
    have e : (sortI ns).countP (fun m => decide ((sortI ns)[ns.length - majN ns.length] ≤ m)) = ((sortI ns).take (ns.length - majN ns.length)).countP (fun m => decide ((sortI ns)[ns.length - majN ns.length] ≤ m)) + ((sortI ns).drop (ns.length - majN ns.length)).countP (fun m => decide ((sortI ns)[ns.length - majN ns.length] ≤ m)) := by
      rw [← List.countP_append, List.take_append_drop]
    have e2 : ((sortI ns).drop (ns.length - majN ns.length)).countP (fun m => decide ((sortI ns)[ns.length - majN ns.length] ≤ m)) = ((sortI ns).drop (ns.length - majN ns.length)).length := by
      rw [List.countP_eq_length]
      intro m hm
      rw [List.drop_eq_getElem_cons hi] at hm
      rcases List.mem_cons.1 hm with rfl | hm
      · simp
      · have := (List.pairwise_iff_getElem.1 hs)
        obtain ⟨j, hj, rfl⟩ := List.mem_iff_getElem.1 hm
        rw [List.getElem_drop]
        have := this (ns.length - majN ns.length) (ns.length - majN ns.length + 1 + j) hi (by rw [List.length_drop] at hj; omega) (by omega)
        simpa using this
    rw [e, e2, List.length_drop]
    omega
  · intro x hx
    rw [← heldN_sort]
    unfold heldN
    have e : (sortI ns).countP (fun m => decide (x ≤ m)) = ((sortI ns).take (ns.length - majN ns.length + 1)).countP (fun m => decide (x ≤ m)) + ((sortI ns).drop (ns.length - majN ns.length + 1)).countP (fun m => decide (x ≤ m)) := by
      rw [← List.countP_append, List.take_append_drop]
    have e2 : ((sortI ns).take (ns.length - majN ns.length + 1)).countP (fun m => decide (x ≤ m)) = 0 := by
      rw [List.countP_eq_zero]
      intro m hm
      obtain ⟨j, hj, rfl⟩ := List.mem_iff_getElem.1 hm
      rw [List.getElem_take]
      rw [List.length_take] at hj
      have hle : (sortI ns)[j]'(by omega) ≤ (sortI ns)[ns.length - majN ns.length] := by
        by_cases hjj : j = ns.length - majN ns.length
        · subst hjj; exact Int.le_refl _
        · exact (List.pairwise_iff_getElem.1 hs) j (ns.length - majN ns.length) (by omega) hi (by omega)
      simp
      omega
    have e3 := List.countP_le_length (p := fun m => decide (x ≤ m)) (l := (sortI ns).drop (ns.length - majN ns.length + 1))
    rw [List.length_drop] at e3
    rw [e, e2]
    omega
/-- Enough have it. -/
def enough (ns : List Int) (m : Int) : Prop := majN ns.length ≤ heldN ns m
theorem most_unique {ns : List Int} (h : ns.length ≠ 0) {b : Int} (h1 : enough ns b) (h2 : ∀ m ∈ ns, enough ns m → m ≤ b) : b = mostL ns := by
  obtain ⟨s1, s2, s3⟩ := most_spec h
  have := h2 _ s1 s2
  rcases Int.lt_or_le (mostL ns) b with h3 | h3
  · have := s3 b h3
    unfold enough at h1
    omega
  · omega
/-- Sums, one by one. -/
theorem held_grows {ns ks : List Int} (hl : ns.length = ks.length) (hk : ∀ k ∈ ks, 0 ≤ k) (i : Int) : heldN ns i ≤ heldN (List.zipWith (· + ·) ns ks) i := by
  induction ns generalizing ks with
  | nil => simp [heldN]
  | cons n ns ih =>
    match ks, hl, hk with
    | k :: ks, hl, hk =>
      have h1 := ih (ks := ks) (by simpa using hl) (fun x hx => hk x (by simp [hx]))
      have h0 := hk k (by simp)
      unfold heldN at h1 ⊢
      rw [List.zipWith_cons_cons, List.countP_cons, List.countP_cons]
      by_cases h : i ≤ n
      · simp [h, show i ≤ n + k by omega]; exact h1
      · simp [h]
        omega
theorem most_grows {ns ks : List Int} (hl : ns.length = ks.length) (hk : ∀ k ∈ ks, 0 ≤ k) : mostL ns ≤ mostL (List.zipWith (· + ·) ns ks) := by
  have hz : (List.zipWith (· + ·) ns ks).length = ns.length := by rw [List.length_zipWith, hl, Nat.min_self]
  by_cases h : ns.length = 0
  · unfold mostL; rw [if_pos h, if_pos (by omega)]; exact Int.le_refl _
  · obtain ⟨s1, s2, s3⟩ := most_spec h
    obtain ⟨t1, t2, t3⟩ := most_spec (ns := List.zipWith (· + ·) ns ks) (by omega)
    rcases Int.lt_or_le (mostL (List.zipWith (· + ·) ns ks)) (mostL ns) with h3 | h3
    · have h4 := t3 _ h3
      have := held_grows hl hk (mostL ns)
      rw [hz] at h4
      omega
    · exact h3
end Go.Proofs.Ytlejbhgginolgaa
