/-
  What is proved: the law suturelaw08.VaultReads returns true for every input: what any bytes keep, and how many of them, is what the document says.
  Conditions: none; any bytes (a nil slice too). The law itself asks for at most 8000 bytes.
-/
import Derived.Test.YtnbljcbfnplbaaaRows
import Derived.WalkKit
import Derived.ProofKit
import Derived.OpenShut
import Derived.ShutString
import Derived.ChangeOld
import Derived.Below
import Derived.Test.YtnbljcbfnplbaaaVaultY
import Derived.Test.YtnbljcbfnplbaaaBA
namespace Go.Proofs.Ytnbljcbfnplbaaa.vaultReads
open Go.ChangeShapes Go.WideShapes Go.ChangeAt Go.RowKit
open Go.ChangeMaps (open_string shut_string)
set_option linter.unusedVariables false

theorem own : ownKnob Try.prog.godebug = none := by kernel_rfl
theorem laidOut : laidOutB Try.prog = true := by kernel_rfl

/-! ### The walk: the text returns true and writes nothing that was there. -/
theorem walk (a0 : Option Addr) (cap0 : Nat) (bs0 : List UInt8) (w : World) (w0 : BytesIn w a0 cap0 bs0) :
    Calls Try.prog 7 #[.slice a0 bs0.length cap0] w fun e w' => e = .returned (.bool true) ∧ Below w.heap.size w w' := by
  exact vaultReads_walk a0 cap0 bs0 w w0

/-! ### The row's step -/
set_option maxRecDepth 100000 in
theorem lifted (os : Os) (started : os.Started) (H : Type) (enc : TypeId × Value → H) :
    ReturnsInHanded {} Try.checked os 7 .any (Rows.vaultReadsSpec.pre6 enc Try.prog Try.f7 Rows.vaultReadsRow.domain false) (Rows.vaultReadsSpec.post enc Try.prog Try.f7 false true false false) := by
  refine returnsInHanded_of_change (C := Try.checked) own started (by kernel_rfl) Try.func7
    (ChangeSpec.witness6 (enc := enc) (C := Try.checked) false ⟨#[], #[.slice none 0 0], []⟩ 8 (by kernel_rfl) (by kernel_rfl) (by kernel_rfl) (by kernel_rfl)) ?_
  intro W base args ds gs before hval0 hW hcnd _
  have hval : ∀ (j : Nat) t v, Try.f7.params[j]? = some t → args[j]? = some v → Value.okWide Try.prog W .any base t v := hval0
  have hW' := hW
  obtain ⟨p, q, hA0, hV, rfl, hfz, hnd⟩ := hW
  have hA : DataW.TrodAll enc Try.prog W 0 (fun _ => true) true Try.f7.params.toList args.toList ds p := hA0
  rw [Try.params7] at hA hval
  obtain ⟨v0, vs0, d0, ds0, p0, q0, hargs, rfl, rfl, h0, r0⟩ := trodAll_cons hA
  obtain ⟨rfl, rfl, rfl⟩ := trodAll_nil r0
  obtain rfl : args = #[v0] := by cases args; simp_all
  obtain ⟨rfl, rfl⟩ := trodVars_none hV
  have k0t := h0
  have lt0 : ∀ x ∈ p0, x.block < W.heap.size := by obtain ⟨m, hm⟩ := k0t; exact DataW.trod_lt m _ _ _ hm
  obtain ⟨a0, cap0, bs0, rfl, w0⟩ := open_bytes_arg (hval 0 46 v0 rfl rfl) h0
  clear hA0 hval0
  refine (walk a0 cap0 bs0 W w0).mono fun e W' ⟨he, bel⟩ => ?_
  subst he
  exact ⟨_, rfl, _, _, _, [], _, [], hW', trodAll_mk1 (shut_bool Try.underlying4 _), (trodAll_cons_mk (Below.trod laidOut (by kernel_rfl) (of_decide_eq_true (by kernel_rfl)) k0t bel lt0) trodAll_mk0), rfl, bel.frame _, fun h => by cases h⟩

theorem over : Rows.vaultReadsRow.holds Try.pinned (OpenSpec.ofChange Rows.vaultReadsSpec) :=
  OpenClaim.holds_of_wide 7 Try.f7 rfl rfl rfl rfl rfl rfl rfl ⟨rfl, rfl, rfl, rfl, rfl⟩ rfl rfl rfl rfl rfl (by kernel_rfl) Try.func7 (by kernel_rfl)
    (of_decide_eq_true (by kernel_rfl)) (by unfold Func.isWrapper; first | (rw [if_pos (by decide +kernel)]; kernel_rfl) | (rw [if_neg (by decide +kernel)]; exact ⟨rfl, rfl⟩))
    (fun os started H enc _ => lifted os started H enc)

/-- The statement. -/
theorem proved : Rows.VaultReadsSaid := over
#print axioms proved
end Go.Proofs.Ytnbljcbfnplbaaa.vaultReads
