/-
  What is proved: the law suturelaw07.RaftRises returns true for every input: whatever happens to a member, its term never falls, nor does what is settled; within a term its vote, once given, stays; who leads, and goes on to, never loses an entry.
  Conditions: none; any number, any group, any ballot, any log, any things that happen (nil slices too). The law itself asks for at most 100 entries, at most 60 things that happen, and at most 20 entries in each message.
-/
import Derived.Test.YtlejbhgginolgaaRows
import Derived.WalkKit
import Derived.ProofKit
import Derived.OpenShut
import Derived.ShutString
import Derived.ChangeOld
import Derived.Below
import Derived.Test.YtlejbhgginolgaaRaftZr
namespace Go.Proofs.Ytlejbhgginolgaa.raftRises
open Go.ChangeShapes Go.WideShapes Go.ChangeAt Go.RowKit
open Go.ChangeMaps (open_string shut_string)
set_option linter.unusedVariables false

theorem own : ownKnob Try.prog.godebug = none := by kernel_rfl
theorem laidOut : laidOutB Try.prog = true := by kernel_rfl

/-! ### The walk: the text returns true and writes nothing that was there. -/
theorem walk (a0 : Int) (a1 : Int) (t2 : Int) (v2b : Int) (b3 : Int) (t3 : Int) (a3 : Option Addr) (cap3 : Nat) (es3 : List En) (a4 : Option Addr) (cap4 : Nat) (ms4 : List EvR) (w : World) (w0 : (Lit.int .i64 a0).wf = true) (w1 : (Lit.int .i64 a1).wf = true) (w2 : True) (w3 : LogIn w a3 cap3 es3) (w4 : EvrsIn w a4 cap4 ms4) :
    Calls Try.prog 7 #[.int .i64 a0, .int .i64 a1, ballotV t2 v2b, logV b3 t3 a3 es3.length cap3, .slice a4 ms4.length cap4] w fun e w' => e = .returned (.bool true) ∧ Below w.heap.size w w' := by
  exact raftRises_walk a0 a1 t2 v2b b3 t3 a3 cap3 es3 a4 cap4 ms4 w w3 w4

/-! ### The row's step -/
set_option maxRecDepth 100000 in
theorem lifted (os : Os) (started : os.Started) (H : Type) (enc : TypeId × Value → H) :
    ReturnsInHanded {} Try.checked os 7 .any (Rows.raftRisesSpec.pre6 enc Try.prog Try.f7 Rows.raftRisesRow.domain false) (Rows.raftRisesSpec.post enc Try.prog Try.f7 false true false false) := by
  refine returnsInHanded_of_change (C := Try.checked) own started (by kernel_rfl) Try.func7
    (ChangeSpec.witness6 (enc := enc) (C := Try.checked) false ⟨#[], #[.int .i64 0, .int .i64 0, .agg #[.int .i64 0, .int .i64 0], .agg #[.int .i64 0, .int .i64 0, .slice none 0 0], .slice none 0 0], []⟩ 8 (by kernel_rfl) (by kernel_rfl) (by kernel_rfl) (by kernel_rfl)) ?_
  intro W base args ds gs before hval0 hW hcnd _
  have hval : ∀ (j : Nat) t v, Try.f7.params[j]? = some t → args[j]? = some v → Value.okWide Try.prog W .any base t v := hval0
  have hW' := hW
  obtain ⟨p, q, hA0, hV, rfl, hfz, hnd⟩ := hW
  have hA : DataW.TrodAll enc Try.prog W 0 (fun _ => true) true Try.f7.params.toList args.toList ds p := hA0
  rw [Try.params7] at hA hval
  obtain ⟨v0, vs0, d0, ds0, p0, q0, hargs, rfl, rfl, h0, r0⟩ := trodAll_cons hA
  obtain ⟨v1, vs1, d1, ds1, p1, q1, rfl, rfl, rfl, h1, r1⟩ := trodAll_cons r0
  obtain ⟨v2, vs2, d2, ds2, p2, q2, rfl, rfl, rfl, h2, r2⟩ := trodAll_cons r1
  obtain ⟨v3, vs3, d3, ds3, p3, q3, rfl, rfl, rfl, h3, r3⟩ := trodAll_cons r2
  obtain ⟨v4, vs4, d4, ds4, p4, q4, rfl, rfl, rfl, h4, r4⟩ := trodAll_cons r3
  obtain ⟨rfl, rfl, rfl⟩ := trodAll_nil r4
  obtain rfl : args = #[v0, v1, v2, v3, v4] := by cases args; simp_all
  obtain ⟨rfl, rfl⟩ := trodVars_none hV
  obtain ⟨a0, rfl, rfl, rfl, w0⟩ := open_int Try.underlying3 (hval 0 3 v0 rfl rfl) h0
  obtain ⟨a1, rfl, rfl, rfl, w1⟩ := open_int Try.underlying3 (hval 1 3 v1 rfl rfl) h1
  have k2t := h2
  have lt2 : ∀ x ∈ p2, x.block < W.heap.size := by obtain ⟨m, hm⟩ := k2t; exact DataW.trod_lt m _ _ _ hm
  obtain ⟨t2, v2b, rfl, w2⟩ := open_ballot_arg (hval 2 23 v2 rfl rfl) h2
  have k3t := h3
  have lt3 : ∀ x ∈ p3, x.block < W.heap.size := by obtain ⟨m, hm⟩ := k3t; exact DataW.trod_lt m _ _ _ hm
  obtain ⟨b3, t3, a3, cap3, es3, rfl, w3⟩ := open_log_arg (hval 3 26 v3 rfl rfl) h3
  have k4t := h4
  have lt4 : ∀ x ∈ p4, x.block < W.heap.size := by obtain ⟨m, hm⟩ := k4t; exact DataW.trod_lt m _ _ _ hm
  obtain ⟨a4, cap4, ms4, rfl, w4⟩ := open_evrs_arg (hval 4 51 v4 rfl rfl) h4
  clear hA0 hval0
  refine (walk a0 a1 t2 v2b b3 t3 a3 cap3 es3 a4 cap4 ms4 W w0 w1 w2 w3 w4).mono fun e W' ⟨he, bel⟩ => ?_
  subst he
  exact ⟨_, rfl, _, _, _, [], _, [], hW', trodAll_mk1 (shut_bool Try.underlying4 _), (trodAll_cons_mk (shut_int Try.underlying3 w0) (trodAll_cons_mk (shut_int Try.underlying3 w1) (trodAll_cons_mk (Below.trod laidOut (by kernel_rfl) (of_decide_eq_true (by kernel_rfl)) k2t bel lt2) (trodAll_cons_mk (Below.trod laidOut (by kernel_rfl) (of_decide_eq_true (by kernel_rfl)) k3t bel lt3) (trodAll_cons_mk (Below.trod laidOut (by kernel_rfl) (of_decide_eq_true (by kernel_rfl)) k4t bel lt4) trodAll_mk0))))), rfl, bel.frame _, fun h => by cases h⟩

theorem over : Rows.raftRisesRow.holds Try.pinned (OpenSpec.ofChange Rows.raftRisesSpec) :=
  OpenClaim.holds_of_wide 7 Try.f7 rfl rfl rfl rfl rfl rfl rfl ⟨rfl, rfl, rfl, rfl, rfl⟩ rfl rfl rfl rfl rfl (by kernel_rfl) Try.func7 (by kernel_rfl)
    (of_decide_eq_true (by kernel_rfl)) (by unfold Func.isWrapper; first | (rw [if_pos (by decide +kernel)]; kernel_rfl) | (rw [if_neg (by decide +kernel)]; exact ⟨rfl, rfl⟩))
    (fun os started H enc _ => lifted os started H enc)

/-- The statement. -/
theorem proved : Rows.RaftRisesSaid := over
#print axioms proved
end Go.Proofs.Ytlejbhgginolgaa.raftRises
