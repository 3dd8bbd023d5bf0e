/-
  Numbers of an entry; whether one may not be.
-/
import Derived.Test.YtnbljcbfnplbaaaVaultMath
import Derived.Test.YtnbljcbfnplbaaaBD
import Derived.Test.YtnbljcbfnplbaaaBE
import Derived.Test.YtnbljcbfnplbaaaBA
namespace Go.Proofs.Ytnbljcbfnplbaaa
open Go.RowKit
set_option linter.unusedVariables false
theorem oddN_any (n : Int) (hn : (Lit.int .i64 n).wf = true) (w : World) : Calls Try.prog 43 #[.int .i64 n] w fun e w' => e = .returned (.bool (decide (sizeI n < 0))) ∧ w' = w := by
  have HS : Hid (∀ W, Calls Try.prog 44 #[.int .i64 n] W fun e w' => e = .returned (.int .i64 (sizeI n)) ∧ w' = W) := fun W => fsize_any n hn W
  generalize sizeI n = s at HS
  go_enter Try.func43, Try.ntmps43
  go_wp2_with (go_at_call 44; refine (HS.out _).mono ?_; rintro e w' ⟨rfl, rfl⟩)
  go_ret
  exact ⟨rfl, rfl⟩
set_option maxHeartbeats 1600000 in
theorem indexN_any (a : Option Addr) (cap : Nat) (ns : List Int) (w : World) (hi : IntsIn w a cap ns) (hl : ns.length ≤ 1000000) :
    Calls Try.prog 54 #[.slice a ns.length cap, .func (.func 43) #[] #[]] w fun e w' => (∃ i : Int, e = .returned (.int .i64 i) ∧ -1 ≤ i ∧ decide (0 ≤ i) = ns.any fun n => decide (sizeI n < 0)) ∧ w' = w := by
  have hcells := hi.cells
  have HW := Lib.hid hi.wf
  clear hi
  go_enter Try.func54, Try.ntmps54
  go_wp2
  go_loopw [8] (fun i wr => ∃ (k : Nat), k ≤ ns.length ∧ i = .int .i64 k ∧ Hid ((ns.take k).any (fun n => decide (sizeI n < 0)) = false) ∧ wr = w) (fun i _ => ns.length - (intOf i).toNat)
  case atStart => exact ⟨0, by omega, rfl, by rw [Hid]; simp, rfl⟩
  case round =>
    obtain ⟨k, hk, rfl, HP, rfl⟩ := hrel
    by_cases hlt : k < ns.length
    · obtain ⟨b, off, rfl, hblt, hc⟩ := hcells.at hlt
      have hwf := HW.out _ (List.getElem_mem hlt)
      have HS : Hid (∀ W, Calls Try.prog 43 #[.int .i64 (ns[k]'hlt)] W fun e w' => e = .returned (.bool (decide (sizeI (ns[k]'hlt) < 0))) ∧ w' = W) := fun W => oddN_any _ hwf W
      have hk0 : (0 : Int) ≤ (k : Int) := by omega
      have hk1 : (k : Int) < (ns.length : Int) := by omega
      by_cases hp : sizeI (ns[k]'hlt) < 0
      · have HR := Lib.hid (any_stops (p := fun n => decide (sizeI n < 0)) hlt (decide_eq_true hp))
        rw [decide_eq_true hp] at HS
        clear hp hwf
        generalize (ns[k]'hlt) = x at HS hc
        go_wp2_with (go_at_call 43; refine (HS.out _).mono ?_; rintro e w' ⟨rfl, rfl⟩)
        go_ret
        exact ⟨⟨_, rfl, by omega, by rw [HR.out]; simp⟩, rfl⟩
      · have HR := Lib.hid (any_goes (p := fun n => decide (sizeI n < 0)) hlt HP.out (decide_eq_false hp))
        rw [decide_eq_false hp] at HS
        clear hp hwf HP
        generalize (ns[k]'hlt) = x at HS hc
        go_wp2_with (go_at_call 43; refine (HS.out _).mono ?_; rintro e w' ⟨rfl, rfl⟩)
        go_roundw
        case rel => exact ⟨k + 1, by omega, by go_num, HR, trivial⟩
        case measure => simp [intOf]; omega
    · have hk : k = ns.length := by omega
      subst hk
      have HP2 : Hid (ns.any (fun n => decide (sizeI n < 0)) = false) := by have := HP.out; rwa [List.take_length] at this
      go_wp2
      go_ret
      exact ⟨⟨-1, rfl, by omega, by rw [HP2.out]; rfl⟩, rfl⟩
theorem containsN_any (a : Option Addr) (cap : Nat) (ns : List Int) (w : World) (hi : IntsIn w a cap ns) (hl : ns.length ≤ 1000000) :
    Calls Try.prog 42 #[.slice a ns.length cap, .func (.func 43) #[] #[]] w fun e w' => e = .returned (.bool (ns.any fun n => decide (sizeI n < 0))) ∧ w' = w := by
  have HS := Lib.hid (indexN_any a cap ns w hi hl)
  clear hi
  go_enter Try.func42, Try.ntmps42
  go_wp2_with (go_at_call 54; refine HS.out.mono ?_; rintro e w' ⟨⟨i, rfl, hi1, hi2⟩, rfl⟩; replace hi2 := Lib.hid hi2)
  go_ret
  exact ⟨ret_bool hi2.out, rfl⟩

/-- A row that was just made. -/
theorem own_new (w : World) (xs : List Value) (e : TypeId) (n : Nat) {base : Nat} (hb : base ≤ w.heap.size) (hl : xs.length = n) (hm : n ≤ maxLen) : (w.alloc (.cells xs.toArray e)).ownsRow base e 1 (.slice (some ⟨w.heap.size, 0, none⟩) n n) n xs := by
  subst hl
  exact ⟨by omega, .inr ⟨_, _, xs.toArray, rfl, hb, heap_alloc_new w _, Nat.le_refl _, hm, by simp, by simp⟩⟩
/-- An entry as a value. -/
def entA (e : En) : Value := .agg #[.int .i64 e.1, .int .i64 e.2.1, .int .i64 e.2.2.1, .int .i64 e.2.2.2.1, .int .i64 e.2.2.2.2.1, .int .i64 e.2.2.2.2.2.1, .int .i64 e.2.2.2.2.2.2]
def EnWf (e : En) : Prop := ∀ n ∈ numsOf 0 e, (Lit.int .i64 n).wf = true
set_option maxRecDepth 100000 in
set_option maxHeartbeats 3200000 in
theorem numbers_any (i : Int) (e : En) (w : World) : Calls Try.prog 30 #[.int .i64 i, entA e] w (RetRow 3 1 8 ((numsOf i e).map intV) w) := by
  obtain ⟨x0, x1, x2, x3, x4, x5, x6⟩ := e
  unfold entA
  simp only
  go_enter Try.func30, Try.ntmps30
  go_wp2
  go_ret
  have hb2 := below2 w (.cells #[.int .i64 x0, .int .i64 x1, .int .i64 x2, .int .i64 x3, .int .i64 x4, .int .i64 x5, .int .i64 x6] 41) (.cells #[.int .i64 x1, .int .i64 x2, .int .i64 x3, .int .i64 x4, .int .i64 x5, .int .i64 x6] 39)
  have hb3 := hb2.alloc hb2.size (.cells #[.int .i64 i, .int .i64 x0, .int .i64 x1, .int .i64 x2, .int .i64 x3, .int .i64 x4, .int .i64 x5, .int .i64 x6] 3)
  have ho := own_new ((w.alloc (.cells #[.int .i64 x0, .int .i64 x1, .int .i64 x2, .int .i64 x3, .int .i64 x4, .int .i64 x5, .int .i64 x6] 41)).alloc (.cells #[.int .i64 x1, .int .i64 x2, .int .i64 x3, .int .i64 x4, .int .i64 x5, .int .i64 x6] 39)) [.int .i64 i, .int .i64 x0, .int .i64 x1, .int .i64 x2, .int .i64 x3, .int .i64 x4, .int .i64 x5, .int .i64 x6] 3 8 hb2.size rfl (by unfold maxLen; omega)
  rw [show ((w.alloc (.cells #[.int .i64 x0, .int .i64 x1, .int .i64 x2, .int .i64 x3, .int .i64 x4, .int .i64 x5, .int .i64 x6] 41)).alloc (.cells #[.int .i64 x1, .int .i64 x2, .int .i64 x3, .int .i64 x4, .int .i64 x5, .int .i64 x6] 39)).heap.size = w.heap.size + 1 + 1 by simp] at ho
  exact ⟨_, _, rfl, ho, hb3⟩
theorem sizeI_neg {n : Int} : sizeI n < 0 ↔ ¬ (0 ≤ n ∧ n < 72057594037927936) := by
  by_cases h : n < 0 ∨ 72057594037927936 ≤ n
  · rw [sizeI_bad h]; omega
  · have := (sizeI_ok (n := n) (by omega) (by omega)).1
    rw [this]; omega
theorem odd_nums (e : En) : (numsOf 0 e).any (fun n => decide (sizeI n < 0)) = oddE e := by
  unfold oddE
  rw [Bool.eq_iff_iff, List.any_eq_true]
  simp only [Bool.not_eq_true', decide_eq_false_iff_not, decide_eq_true_eq, sizeI_neg]
  obtain ⟨x0, x1, x2, x3, x4, x5, x6⟩ := e
  unfold EnFair Fair numsOf
  simp only [List.mem_cons, List.not_mem_nil, or_false, exists_eq_or_imp, exists_eq_left, forall_eq_or_imp, forall_eq]
  omega
set_option maxRecDepth 100000 in
set_option maxHeartbeats 3200000 in
theorem oddEn_any (e : En) (w : World) (hwf : EnWf e) : Calls Try.prog 27 #[entA e] w fun en w' => en = .returned (.bool (oddE e)) ∧ Below w.heap.size w w' := by
  have HN : Hid (∀ W, Calls Try.prog 30 #[.int .i64 0, entA e] W (RetRow 3 1 8 ((numsOf 0 e).map intV) W)) := fun W => numbers_any 0 e W
  have HC : Hid (∀ W a c, W.ownsRow w.heap.size 3 1 (.slice a 8 c) 8 ((numsOf 0 e).map intV) → Calls Try.prog 42 #[.slice a 8 c, .func (.func 43) #[] #[]] W fun en w' => en = .returned (.bool (oddE e)) ∧ w' = W) := fun W a c h => by
    have := containsN_any a c (numsOf 0 e) W ⟨RowAt.of_own h, own_le' h, own_none h, hwf⟩ (by show 8 ≤ _; omega)
    rwa [odd_nums] at this
  generalize oddE e = o at HC
  clear hwf
  obtain ⟨x0, x1, x2, x3, x4, x5, x6⟩ := e
  unfold entA at HN ⊢
  simp only at HN ⊢
  go_enter Try.func27, Try.ntmps27
  go_wp2_with (first
    | (go_at_call 30; refine (HN.out _).mono ?_; rintro en w1 ⟨a1, c1, rfl, own1, hb1⟩; have hb := alloc_below hb1)
    | (go_at_call 42; refine (HC.out _ a1 c1 (own_base own1 (by simp))).mono ?_; rintro en w2 ⟨rfl, rfl⟩))
  go_ret
  exact ⟨rfl, hb⟩
end Go.Proofs.Ytnbljcbfnplbaaa
