/-
  What is proved: the law suturelaw02.FieldsBack returns true for every input: what was packed is unpacked as it was, and cut off from whatever is behind it.
  Conditions: none; any numbers and bytes (nil slices too). The law itself asks for at most 300 numbers, 5000 bytes, and 1000 bytes behind.
-/
import Derived.Test.YtipngfdibcapjaaRows
import Derived.WalkKit
import Derived.ProofKit
import Derived.OpenShut
import Derived.ShutString
import Derived.ChangeOld
import Derived.Below
import Derived.Test.YtipngfdibcapjaaFieldsZ
import Derived.Test.YtipngfdibcapjaaOpenFields
namespace Go.Proofs.Ytipngfdibcapjaa.fieldsBack
open Go.ChangeShapes Go.WideShapes Go.ChangeAt Go.RowKit
open Go.ChangeMaps (open_string shut_string)
set_option linter.unusedVariables false

theorem own : ownKnob Try.prog.godebug = none := by kernel_rfl
theorem laidOut : laidOutB Try.prog = true := by kernel_rfl

/-! ### The walk: the text returns true and writes nothing that was there. -/
theorem walk (a0 : Option Addr) (cap0 : Nat) (ns0 : List Int) (d0a : Option Addr) (cap0d : Nat) (bs0 : List UInt8) (a1 : Option Addr) (cap1 : Nat) (bs1 : List UInt8) (w : World) (w0 : IntsIn w a0 cap0 ns0 ∧ BytesIn w d0a cap0d bs0) (w1 : BytesIn w a1 cap1 bs1) :
    Calls Try.prog 8 #[.agg #[.slice a0 ns0.length cap0, .slice d0a bs0.length cap0d], .slice a1 bs1.length cap1] w fun e w' => e = .returned (.bool true) ∧ Below w.heap.size w w' := by
  exact fieldsBack_walk a0 cap0 ns0 d0a cap0d bs0 a1 cap1 bs1 w w0.1 w0.2 w1

/-! ### The row's step -/
set_option maxRecDepth 100000 in
theorem lifted (os : Os) (started : os.Started) (H : Type) (enc : TypeId × Value → H) :
    ReturnsInHanded {} Try.checked os 8 .any (Rows.fieldsBackSpec.pre6 enc Try.prog Try.f8 Rows.fieldsBackRow.domain false) (Rows.fieldsBackSpec.post enc Try.prog Try.f8 false true false false) := by
  refine returnsInHanded_of_change (C := Try.checked) own started (by kernel_rfl) Try.func8
    (ChangeSpec.witness6 (enc := enc) (C := Try.checked) false ⟨#[], #[.agg #[.slice none 0 0, .slice none 0 0], .slice none 0 0], []⟩ 8 (by kernel_rfl) (by kernel_rfl) (by kernel_rfl) (by kernel_rfl)) ?_
  intro W base args ds gs before hval0 hW hcnd _
  have hval : ∀ (j : Nat) t v, Try.f8.params[j]? = some t → args[j]? = some v → Value.okWide Try.prog W .any base t v := hval0
  have hW' := hW
  obtain ⟨p, q, hA0, hV, rfl, hfz, hnd⟩ := hW
  have hA : DataW.TrodAll enc Try.prog W 0 (fun _ => true) true Try.f8.params.toList args.toList ds p := hA0
  rw [Try.params8] at hA hval
  obtain ⟨v0, vs0, d0, ds0, p0, q0, hargs, rfl, rfl, h0, r0⟩ := trodAll_cons hA
  obtain ⟨v1, vs1, d1, ds1, p1, q1, rfl, rfl, rfl, h1, r1⟩ := trodAll_cons r0
  obtain ⟨rfl, rfl, rfl⟩ := trodAll_nil r1
  obtain rfl : args = #[v0, v1] := by cases args; simp_all
  obtain ⟨rfl, rfl⟩ := trodVars_none hV
  have k0t := h0
  have lt0 : ∀ x ∈ p0, x.block < W.heap.size := by obtain ⟨m, hm⟩ := k0t; exact DataW.trod_lt m _ _ _ hm
  obtain ⟨a0, cap0, ns0, d0a, cap0d, bs0, rfl, w0⟩ := open_fields_arg (hval 0 25 v0 rfl rfl) h0
  have k1t := h1
  have lt1 : ∀ x ∈ p1, x.block < W.heap.size := by obtain ⟨m, hm⟩ := k1t; exact DataW.trod_lt m _ _ _ hm
  obtain ⟨a1, cap1, bs1, rfl, w1⟩ := open_bytes_arg (hval 1 23 v1 rfl rfl) h1
  clear hA0 hval0
  refine (walk a0 cap0 ns0 d0a cap0d bs0 a1 cap1 bs1 W w0 w1).mono fun e W' ⟨he, bel⟩ => ?_
  subst he
  exact ⟨_, rfl, _, _, _, [], _, [], hW', trodAll_mk1 (shut_bool Try.underlying4 _), (trodAll_cons_mk (Below.trod laidOut (by kernel_rfl) (of_decide_eq_true (by kernel_rfl)) k0t bel lt0) (trodAll_cons_mk (Below.trod laidOut (by kernel_rfl) (of_decide_eq_true (by kernel_rfl)) k1t bel lt1) trodAll_mk0)), rfl, bel.frame _, fun h => by cases h⟩

theorem over : Rows.fieldsBackRow.holds Try.pinned (OpenSpec.ofChange Rows.fieldsBackSpec) :=
  OpenClaim.holds_of_wide 8 Try.f8 rfl rfl rfl rfl rfl rfl rfl ⟨rfl, rfl, rfl, rfl, rfl⟩ rfl rfl rfl rfl rfl (by kernel_rfl) Try.func8 (by kernel_rfl)
    (of_decide_eq_true (by kernel_rfl)) (by unfold Func.isWrapper; first | (rw [if_pos (by decide +kernel)]; kernel_rfl) | (rw [if_neg (by decide +kernel)]; exact ⟨rfl, rfl⟩))
    (fun os started H enc _ => lifted os started H enc)

/-- The statement. -/
theorem proved : Rows.FieldsBackSaid := over
#print axioms proved
end Go.Proofs.Ytipngfdibcapjaa.fieldsBack
