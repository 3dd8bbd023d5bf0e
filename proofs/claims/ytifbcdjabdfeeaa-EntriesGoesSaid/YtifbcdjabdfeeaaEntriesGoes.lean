/-
  What is proved: the law suturelaw04.EntriesGoes returns true for every input: two logs that are the same up to an entry, to which the same is added behind it, are the same up to the last entry that was added.
  Conditions: none; any lists of entries (nil slices too). The law itself asks for at most 60 entries each and logs that may be.
-/
import Derived.Test.YtifbcdjabdfeeaaRows
import Derived.WalkKit
import Derived.ProofKit
import Derived.OpenShut
import Derived.ShutString
import Derived.ChangeOld
import Derived.Below
import Derived.Test.YtifbcdjabdfeeaaEntriesV
import Derived.Test.YtifbcdjabdfeeaaOpenLogs
namespace Go.Proofs.Ytifbcdjabdfeeaa.entriesGoes
open Go.ChangeShapes Go.WideShapes Go.ChangeAt Go.RowKit
open Go.ChangeMaps (open_string shut_string)
set_option linter.unusedVariables false

theorem own : ownKnob Try.prog.godebug = none := by kernel_rfl
theorem laidOut : laidOutB Try.prog = true := by kernel_rfl

/-! ### The walk: the text returns true and writes nothing that was there. -/
theorem walk (a0 : Option Addr) (cap0 : Nat) (es0 : List En) (a1 : Option Addr) (cap1 : Nat) (es1 : List En) (a2 : Option Addr) (cap2 : Nat) (es2 : List En) (a3 : Option Addr) (cap3 : Nat) (es3 : List En) (w : World) (w0 : LogIn w a0 cap0 es0) (w1 : LogIn w a1 cap1 es1) (w2 : LogIn w a2 cap2 es2) (w3 : LogIn w a3 cap3 es3) :
    Calls Try.prog 13 #[.slice a0 es0.length cap0, .slice a1 es1.length cap1, .slice a2 es2.length cap2, .slice a3 es3.length cap3] w fun e w' => e = .returned (.bool true) ∧ Below w.heap.size w w' := by
  exact entriesGoes_walk a0 cap0 es0 a1 cap1 es1 a2 cap2 es2 a3 cap3 es3 w w0 w1 w2 w3

/-! ### The row's step -/
set_option maxRecDepth 100000 in
theorem lifted (os : Os) (started : os.Started) (H : Type) (enc : TypeId × Value → H) :
    ReturnsInHanded {} Try.checked os 13 .any (Rows.entriesGoesSpec.pre6 enc Try.prog Try.f13 Rows.entriesGoesRow.domain false) (Rows.entriesGoesSpec.post enc Try.prog Try.f13 false true false false) := by
  refine returnsInHanded_of_change (C := Try.checked) own started (by kernel_rfl) Try.func13
    (ChangeSpec.witness6 (enc := enc) (C := Try.checked) false ⟨#[], #[.slice none 0 0, .slice none 0 0, .slice none 0 0, .slice none 0 0], []⟩ 8 (by kernel_rfl) (by kernel_rfl) (by kernel_rfl) (by kernel_rfl)) ?_
  intro W base args ds gs before hval0 hW hcnd _
  have hval : ∀ (j : Nat) t v, Try.f13.params[j]? = some t → args[j]? = some v → Value.okWide Try.prog W .any base t v := hval0
  have hW' := hW
  obtain ⟨p, q, hA0, hV, rfl, hfz, hnd⟩ := hW
  have hA : DataW.TrodAll enc Try.prog W 0 (fun _ => true) true Try.f13.params.toList args.toList ds p := hA0
  rw [Try.params13] at hA hval
  obtain ⟨v0, vs0, d0, ds0, p0, q0, hargs, rfl, rfl, h0, r0⟩ := trodAll_cons hA
  obtain ⟨v1, vs1, d1, ds1, p1, q1, rfl, rfl, rfl, h1, r1⟩ := trodAll_cons r0
  obtain ⟨v2, vs2, d2, ds2, p2, q2, rfl, rfl, rfl, h2, r2⟩ := trodAll_cons r1
  obtain ⟨v3, vs3, d3, ds3, p3, q3, rfl, rfl, rfl, h3, r3⟩ := trodAll_cons r2
  obtain ⟨rfl, rfl, rfl⟩ := trodAll_nil r3
  obtain rfl : args = #[v0, v1, v2, v3] := by cases args; simp_all
  obtain ⟨rfl, rfl⟩ := trodVars_none hV
  have k0t := h0
  have lt0 : ∀ x ∈ p0, x.block < W.heap.size := by obtain ⟨m, hm⟩ := k0t; exact DataW.trod_lt m _ _ _ hm
  obtain ⟨a0, cap0, es0, rfl, w0⟩ := open_entries_arg (hval 0 24 v0 rfl rfl) h0
  have k1t := h1
  have lt1 : ∀ x ∈ p1, x.block < W.heap.size := by obtain ⟨m, hm⟩ := k1t; exact DataW.trod_lt m _ _ _ hm
  obtain ⟨a1, cap1, es1, rfl, w1⟩ := open_entries_arg (hval 1 24 v1 rfl rfl) h1
  have k2t := h2
  have lt2 : ∀ x ∈ p2, x.block < W.heap.size := by obtain ⟨m, hm⟩ := k2t; exact DataW.trod_lt m _ _ _ hm
  obtain ⟨a2, cap2, es2, rfl, w2⟩ := open_entries_arg (hval 2 24 v2 rfl rfl) h2
  have k3t := h3
  have lt3 : ∀ x ∈ p3, x.block < W.heap.size := by obtain ⟨m, hm⟩ := k3t; exact DataW.trod_lt m _ _ _ hm
  obtain ⟨a3, cap3, es3, rfl, w3⟩ := open_entries_arg (hval 3 24 v3 rfl rfl) h3
  clear hA0 hval0
  refine (walk a0 cap0 es0 a1 cap1 es1 a2 cap2 es2 a3 cap3 es3 W w0 w1 w2 w3).mono fun e W' ⟨he, bel⟩ => ?_
  subst he
  exact ⟨_, rfl, _, _, _, [], _, [], hW', trodAll_mk1 (shut_bool Try.underlying4 _), (trodAll_cons_mk (Below.trod laidOut (by kernel_rfl) (of_decide_eq_true (by kernel_rfl)) k0t bel lt0) (trodAll_cons_mk (Below.trod laidOut (by kernel_rfl) (of_decide_eq_true (by kernel_rfl)) k1t bel lt1) (trodAll_cons_mk (Below.trod laidOut (by kernel_rfl) (of_decide_eq_true (by kernel_rfl)) k2t bel lt2) (trodAll_cons_mk (Below.trod laidOut (by kernel_rfl) (of_decide_eq_true (by kernel_rfl)) k3t bel lt3) trodAll_mk0)))), rfl, bel.frame _, fun h => by cases h⟩

theorem over : Rows.entriesGoesRow.holds Try.pinned (OpenSpec.ofChange Rows.entriesGoesSpec) :=
  OpenClaim.holds_of_wide 13 Try.f13 rfl rfl rfl rfl rfl rfl rfl ⟨rfl, rfl, rfl, rfl, rfl⟩ rfl rfl rfl rfl rfl (by kernel_rfl) Try.func13 (by kernel_rfl)
    (of_decide_eq_true (by kernel_rfl)) (by unfold Func.isWrapper; first | (rw [if_pos (by decide +kernel)]; kernel_rfl) | (rw [if_neg (by decide +kernel)]; exact ⟨rfl, rfl⟩))
    (fun os started H enc _ => lifted os started H enc)

/-- The statement. -/
theorem proved : Rows.EntriesGoesSaid := over
#print axioms proved
end Go.Proofs.Ytifbcdjabdfeeaa.entriesGoes
