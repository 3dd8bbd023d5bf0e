/-
  What is proved: the law suturelaw07.RaftLeads returns true for every input: who alone is the group leads as soon as it times out, takes commands, and settles each at once; a full log takes none; one whose term is the greatest there is does not lead.
  Conditions: none; any ballot, any log, any commands (nil slices too). The law itself asks for at most 100 entries and at most 60 commands.
-/
import Derived.Test.YtlejbhgginolgaaRows
import Derived.WalkKit
import Derived.ProofKit
import Derived.OpenShut
import Derived.ShutString
import Derived.ChangeOld
import Derived.Below
import Derived.Test.YtlejbhgginolgaaRaftZ
import Derived.Test.YtlejbhgginolgaaOpenCmds
namespace Go.Proofs.Ytlejbhgginolgaa.raftLeads
open Go.ChangeShapes Go.WideShapes Go.ChangeAt Go.RowKit
open Go.ChangeMaps (open_string shut_string)
set_option linter.unusedVariables false

theorem own : ownKnob Try.prog.godebug = none := by kernel_rfl
theorem laidOut : laidOutB Try.prog = true := by kernel_rfl

/-! ### The walk: the text returns true and writes nothing that was there. -/
theorem walk (t0 : Int) (v0b : Int) (b1 : Int) (t1 : Int) (a1 : Option Addr) (cap1 : Nat) (es1 : List En) (a2 : Option Addr) (cap2 : Nat) (ms2 : List Cm) (w : World) (w0 : True) (w1 : LogIn w a1 cap1 es1) (w2 : CmdsIn w a2 cap2 ms2) :
    Calls Try.prog 4 #[ballotV t0 v0b, logV b1 t1 a1 es1.length cap1, .slice a2 ms2.length cap2] w fun e w' => e = .returned (.bool true) ∧ Below w.heap.size w w' := by
  exact raftLeads_walk t0 v0b b1 t1 a1 cap1 es1 a2 cap2 ms2 w w1 w2

/-! ### The row's step -/
set_option maxRecDepth 100000 in
theorem lifted (os : Os) (started : os.Started) (H : Type) (enc : TypeId × Value → H) :
    ReturnsInHanded {} Try.checked os 4 .any (Rows.raftLeadsSpec.pre6 enc Try.prog Try.f4 Rows.raftLeadsRow.domain false) (Rows.raftLeadsSpec.post enc Try.prog Try.f4 false true false false) := by
  refine returnsInHanded_of_change (C := Try.checked) own started (by kernel_rfl) Try.func4
    (ChangeSpec.witness6 (enc := enc) (C := Try.checked) false ⟨#[], #[.agg #[.int .i64 0, .int .i64 0], .agg #[.int .i64 0, .int .i64 0, .slice none 0 0], .slice none 0 0], []⟩ 8 (by kernel_rfl) (by kernel_rfl) (by kernel_rfl) (by kernel_rfl)) ?_
  intro W base args ds gs before hval0 hW hcnd _
  have hval : ∀ (j : Nat) t v, Try.f4.params[j]? = some t → args[j]? = some v → Value.okWide Try.prog W .any base t v := hval0
  have hW' := hW
  obtain ⟨p, q, hA0, hV, rfl, hfz, hnd⟩ := hW
  have hA : DataW.TrodAll enc Try.prog W 0 (fun _ => true) true Try.f4.params.toList args.toList ds p := hA0
  rw [Try.params4] at hA hval
  obtain ⟨v0, vs0, d0, ds0, p0, q0, hargs, rfl, rfl, h0, r0⟩ := trodAll_cons hA
  obtain ⟨v1, vs1, d1, ds1, p1, q1, rfl, rfl, rfl, h1, r1⟩ := trodAll_cons r0
  obtain ⟨v2, vs2, d2, ds2, p2, q2, rfl, rfl, rfl, h2, r2⟩ := trodAll_cons r1
  obtain ⟨rfl, rfl, rfl⟩ := trodAll_nil r2
  obtain rfl : args = #[v0, v1, v2] := by cases args; simp_all
  obtain ⟨rfl, rfl⟩ := trodVars_none hV
  have k0t := h0
  have lt0 : ∀ x ∈ p0, x.block < W.heap.size := by obtain ⟨m, hm⟩ := k0t; exact DataW.trod_lt m _ _ _ hm
  obtain ⟨t0, v0b, rfl, w0⟩ := open_ballot_arg (hval 0 23 v0 rfl rfl) h0
  have k1t := h1
  have lt1 : ∀ x ∈ p1, x.block < W.heap.size := by obtain ⟨m, hm⟩ := k1t; exact DataW.trod_lt m _ _ _ hm
  obtain ⟨b1, t1, a1, cap1, es1, rfl, w1⟩ := open_log_arg (hval 1 26 v1 rfl rfl) h1
  have k2t := h2
  have lt2 : ∀ x ∈ p2, x.block < W.heap.size := by obtain ⟨m, hm⟩ := k2t; exact DataW.trod_lt m _ _ _ hm
  obtain ⟨a2, cap2, ms2, rfl, w2⟩ := open_cmds_arg (hval 2 41 v2 rfl rfl) h2
  clear hA0 hval0
  refine (walk t0 v0b b1 t1 a1 cap1 es1 a2 cap2 ms2 W w0 w1 w2).mono fun e W' ⟨he, bel⟩ => ?_
  subst he
  exact ⟨_, rfl, _, _, _, [], _, [], hW', trodAll_mk1 (shut_bool Try.underlying4 _), (trodAll_cons_mk (Below.trod laidOut (by kernel_rfl) (of_decide_eq_true (by kernel_rfl)) k0t bel lt0) (trodAll_cons_mk (Below.trod laidOut (by kernel_rfl) (of_decide_eq_true (by kernel_rfl)) k1t bel lt1) (trodAll_cons_mk (Below.trod laidOut (by kernel_rfl) (of_decide_eq_true (by kernel_rfl)) k2t bel lt2) trodAll_mk0))), rfl, bel.frame _, fun h => by cases h⟩

theorem over : Rows.raftLeadsRow.holds Try.pinned (OpenSpec.ofChange Rows.raftLeadsSpec) :=
  OpenClaim.holds_of_wide 4 Try.f4 rfl rfl rfl rfl rfl rfl rfl ⟨rfl, rfl, rfl, rfl, rfl⟩ rfl rfl rfl rfl rfl (by kernel_rfl) Try.func4 (by kernel_rfl)
    (of_decide_eq_true (by kernel_rfl)) (by unfold Func.isWrapper; first | (rw [if_pos (by decide +kernel)]; kernel_rfl) | (rw [if_neg (by decide +kernel)]; exact ⟨rfl, rfl⟩))
    (fun os started H enc _ => lifted os started H enc)

/-- The statement. -/
theorem proved : Rows.RaftLeadsSaid := over
#print axioms proved
end Go.Proofs.Ytlejbhgginolgaa.raftLeads
