/-
  What is proved: the law suturetop.TopElects returns true for every input: behind any items of a group, when all messages are lost, the member whose log is the newest one leads behind 60 turns, and all members have its log, all of it settled.
  Conditions: none; any number of members, any items (a nil slice too). The law itself asks for at most 7 members and 40 items.
-/
import Derived.Test.YthjdbmfobmnnlaaGreatRows
import Derived.WalkKit
import Derived.Test.YthjdbmfobmnnlaaGreatTkG
import Derived.ProofKit
import Derived.OpenShut
import Derived.ShutString
import Derived.ChangeOld
import Derived.Below
import Derived.Test.YthjdbmfobmnnlaaGreatGf
import Derived.Test.YthjdbmfobmnnlaaGreatAwE
namespace Go.Proofs.YthjdbmfobmnnlaaGreat.topElects
open Go.ChangeShapes Go.WideShapes Go.ChangeAt Go.RowKit
open Go.ChangeMaps (open_string shut_string)
set_option linter.unusedVariables false

theorem own : ownKnob Tryz.prog.godebug = none := by kernel_rfl
theorem laidOut : laidOutB Tryz.prog = true := k1

/-! ### The walk: the text returns true and writes nothing that was there. -/
theorem walk (a0 : Int) (a1 : Option Addr) (cap1 : Nat) (ms1 : List It) (w : World) (w0 : (Lit.int .i64 a0).wf = true) (w1 : ItemsIn w a1 cap1 ms1) :
    Calls Tryz.prog 3 #[.int .i64 a0, .slice a1 ms1.length cap1] w fun e w' => e = .returned (.bool true) ∧ Below w.heap.size w w' := by
  exact topElects_walk (fun W => topAwake_any W) a0 a1 cap1 ms1 w w1

/-! ### The row's step -/
set_option maxRecDepth 100000 in
theorem lifted (os : Os) (started : os.Started) (H : Type) (enc : TypeId × Value → H) :
    ReturnsInHanded {} Tryz.checked os 3 .any (Rows.topElectsSpec.pre6 enc Tryz.prog Tryz.f3 Rows.topElectsRow.domain false) (Rows.topElectsSpec.post enc Tryz.prog Tryz.f3 false true false false) := by
  refine returnsInHanded_of_change (C := Tryz.checked) own started (by kernel_rfl) Tryz.func3
    (ChangeSpec.witness6 (enc := enc) (C := Tryz.checked) false ⟨#[], #[.int .i64 0, .slice none 0 0], []⟩ 8 (by kernel_rfl) (by kernel_rfl) (by kernel_rfl) (by kernel_rfl)) ?_
  intro W base args ds gs before hval0 hW hcnd _
  have hval : ∀ (j : Nat) t v, Tryz.f3.params[j]? = some t → args[j]? = some v → Value.okWide Tryz.prog W .any base t v := hval0
  have hW' := hW
  obtain ⟨p, q, hA0, hV, rfl, hfz, hnd⟩ := hW
  have hA : DataW.TrodAll enc Tryz.prog W 0 (fun _ => true) true Tryz.f3.params.toList args.toList ds p := hA0
  rw [Tryz.params3] at hA hval
  obtain ⟨v0, vs0, d0, ds0, p0, q0, hargs, rfl, rfl, h0, r0⟩ := trodAll_cons hA
  obtain ⟨v1, vs1, d1, ds1, p1, q1, rfl, rfl, rfl, h1, r1⟩ := trodAll_cons r0
  obtain ⟨rfl, rfl, rfl⟩ := trodAll_nil r1
  obtain rfl : args = #[v0, v1] := by cases args; simp_all
  obtain ⟨rfl, rfl⟩ := trodVars_none hV
  obtain ⟨a0, rfl, rfl, rfl, w0⟩ := open_int Tryz.underlying3 (hval 0 3 v0 rfl rfl) h0
  have k1t := h1
  have lt1 : ∀ x ∈ p1, x.block < W.heap.size := by obtain ⟨m, hm⟩ := k1t; exact DataW.trod_lt m _ _ _ hm
  obtain ⟨a1, cap1, ms1, rfl, w1⟩ := open_items_arg (hval 1 22 v1 rfl rfl) h1
  clear hA0 hval0
  refine (walk a0 a1 cap1 ms1 W w0 w1).mono fun e W' ⟨he, bel⟩ => ?_
  subst he
  exact ⟨_, rfl, _, _, _, [], _, [], hW', trodAll_mk1 (shut_bool Tryz.underlying4 _), (trodAll_cons_mk (shut_int Tryz.underlying3 w0) (trodAll_cons_mk (Below.trod laidOut (by kernel_rfl) (of_decide_eq_true (by kernel_rfl)) k1t bel lt1) trodAll_mk0)), rfl, bel.frame _, fun h => by cases h⟩

theorem over : Rows.topElectsRow.holds Tryz.pinned (OpenSpec.ofChange Rows.topElectsSpec) :=
  OpenClaim.holds_of_wide 3 Tryz.f3 rfl rfl rfl rfl rfl rfl rfl ⟨rfl, rfl, rfl, rfl, rfl⟩ rfl rfl rfl rfl rfl named_ Tryz.func3 closed
    (of_decide_eq_true (by kernel_rfl)) (by unfold Func.isWrapper; first | (rw [if_pos (by decide +kernel)]; kernel_rfl) | (rw [if_neg (by decide +kernel)]; exact ⟨rfl, rfl⟩))
    (fun os started H enc _ => lifted os started H enc)

/-- The statement. -/
theorem proved : Rows.TopElectsSaid := over
#print axioms proved
end Go.Proofs.YthjdbmfobmnnlaaGreat.topElects
