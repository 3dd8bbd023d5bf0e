/-
  No cell of these rows narrows 'for every input' (looked for: loops, veiled, ifaces, maps, wideKeys, modest, calm, conditions, laid).
  DERIVED. THE GIVEN ROWS OF THIS SEAT. 7 by the template 'for every input the law returns true; each argument reads behind the call as it read before'; 0 by the template 'total and deterministic' (their statements: YtnljdkglncmfaaaGreatTotals.lean).
  GIVEN WITH THE SEED: the statements are not yours to turn. If you find one false, say at which input.
  Laid BY PROGRAM, IN A SANDBOX (cutbox-rows.mjs): the forced cells as the released guide's own fill.sh prints them over the translation 001328ec5527aa00… (all of the seat's roots in one cut). By AI agents, Wed Nov 11 2026. No macro, syntax, notation, axiom, sorry.
-/
import Derived.Test.YtnljdkglncmfaaaGreatChecked
import GoSem.Claim
import GoSem.ClaimJoined
import GoSem.ClaimMapViews
import Derived.JoinedTies
import Derived.KernelRfl
namespace Go.Proofs.YtnljdkglncmfaaaGreat
/- THE CELL 'sum', in the pinned program and in every row, IS THE sha256 OF THE DUMP (.gsa) THAT YtnljdkglncmfaaaGreatProg.lean LOADS. Nothing in Lean hashes anything: it is a label: what it is worth is what the hold of that sum in a sandbox is worth. -/
noncomputable def Tryz.pinned : Pinned := { name := "ytnljdkglncmfaaagreat", sum := "001328ec5527aa0010ceb5750af4d97c53a40819895612d46cfce0e4c62893ce", checked := Tryz.checked }
namespace Rows
def none {H : Type} : Left H := { results := [], args := [] }

/-- 'suturelaw22.GroupLeaders': WHATEVER THE INPUT: true; the input reads as it did. -/
def groupLeadersSpec : ChangeSpec := { name := "groupLeaders", fn := fun _ => fun
  | [d1, d2] => { results := [.lit (.bool true)], args := [d1, d2] }
  | _ => none }
def groupLeadersRow : OpenClaim := { program := "ytnljdkglncmfaaagreat", sum := "001328ec5527aa0010ceb5750af4d97c53a40819895612d46cfce0e4c62893ce", func := "suture/suturelaw22.GroupLeaders", spec := "groupLeaders", unfollowed := true, recurses := true, apart := false }
def GroupLeadersSaid : Prop := groupLeadersRow.holds Tryz.pinned (OpenSpec.ofChange groupLeadersSpec)

/-- ITS FALSE NEIGHBOUR: 'it returns false'. Refute it at one input. -/
def groupLeadersWrong : ChangeSpec := { name := "groupLeaders", fn := fun _ => fun
  | [d1, d2] => { results := [.lit (.bool false)], args := [d1, d2] }
  | _ => none }
def GroupLeadersWrongFalsely : Prop := groupLeadersRow.holds Tryz.pinned (OpenSpec.ofChange groupLeadersWrong)

/-- 'suturelaw22.GroupMatches': WHATEVER THE INPUT: true; the input reads as it did. -/
def groupMatchesSpec : ChangeSpec := { name := "groupMatches", fn := fun _ => fun
  | [d1, d2] => { results := [.lit (.bool true)], args := [d1, d2] }
  | _ => none }
def groupMatchesRow : OpenClaim := { program := "ytnljdkglncmfaaagreat", sum := "001328ec5527aa0010ceb5750af4d97c53a40819895612d46cfce0e4c62893ce", func := "suture/suturelaw22.GroupMatches", spec := "groupMatches", unfollowed := true, recurses := true, apart := false }
def GroupMatchesSaid : Prop := groupMatchesRow.holds Tryz.pinned (OpenSpec.ofChange groupMatchesSpec)

/-- ITS FALSE NEIGHBOUR: 'it returns false'. Refute it at one input. -/
def groupMatchesWrong : ChangeSpec := { name := "groupMatches", fn := fun _ => fun
  | [d1, d2] => { results := [.lit (.bool false)], args := [d1, d2] }
  | _ => none }
def GroupMatchesWrongFalsely : Prop := groupMatchesRow.holds Tryz.pinned (OpenSpec.ofChange groupMatchesWrong)

/-- 'suturelaw22.GroupSettles': WHATEVER THE INPUT: true; the input reads as it did. -/
def groupSettlesSpec : ChangeSpec := { name := "groupSettles", fn := fun _ => fun
  | [d1, d2] => { results := [.lit (.bool true)], args := [d1, d2] }
  | _ => none }
def groupSettlesRow : OpenClaim := { program := "ytnljdkglncmfaaagreat", sum := "001328ec5527aa0010ceb5750af4d97c53a40819895612d46cfce0e4c62893ce", func := "suture/suturelaw22.GroupSettles", spec := "groupSettles", unfollowed := true, recurses := true, apart := false }
def GroupSettlesSaid : Prop := groupSettlesRow.holds Tryz.pinned (OpenSpec.ofChange groupSettlesSpec)

/-- ITS FALSE NEIGHBOUR: 'it returns false'. Refute it at one input. -/
def groupSettlesWrong : ChangeSpec := { name := "groupSettles", fn := fun _ => fun
  | [d1, d2] => { results := [.lit (.bool false)], args := [d1, d2] }
  | _ => none }
def GroupSettlesWrongFalsely : Prop := groupSettlesRow.holds Tryz.pinned (OpenSpec.ofChange groupSettlesWrong)

/-- 'suturelaw22.GroupDoes': WHATEVER THE INPUT: true; the input reads as it did. -/
def groupDoesSpec : ChangeSpec := { name := "groupDoes", fn := fun _ => fun
  | [d1, d2] => { results := [.lit (.bool true)], args := [d1, d2] }
  | _ => none }
def groupDoesRow : OpenClaim := { program := "ytnljdkglncmfaaagreat", sum := "001328ec5527aa0010ceb5750af4d97c53a40819895612d46cfce0e4c62893ce", func := "suture/suturelaw22.GroupDoes", spec := "groupDoes", unfollowed := true, recurses := true, apart := false }
def GroupDoesSaid : Prop := groupDoesRow.holds Tryz.pinned (OpenSpec.ofChange groupDoesSpec)

/-- ITS FALSE NEIGHBOUR: 'it returns false'. Refute it at one input. -/
def groupDoesWrong : ChangeSpec := { name := "groupDoes", fn := fun _ => fun
  | [d1, d2] => { results := [.lit (.bool false)], args := [d1, d2] }
  | _ => none }
def GroupDoesWrongFalsely : Prop := groupDoesRow.holds Tryz.pinned (OpenSpec.ofChange groupDoesWrong)

/-- 'suturelaw22.GroupGoes': WHATEVER THE INPUT: true; the input reads as it did. -/
def groupGoesSpec : ChangeSpec := { name := "groupGoes", fn := fun _ => fun
  | [d1, d2, d3] => { results := [.lit (.bool true)], args := [d1, d2, d3] }
  | _ => none }
def groupGoesRow : OpenClaim := { program := "ytnljdkglncmfaaagreat", sum := "001328ec5527aa0010ceb5750af4d97c53a40819895612d46cfce0e4c62893ce", func := "suture/suturelaw22.GroupGoes", spec := "groupGoes", unfollowed := true, recurses := true, apart := false }
def GroupGoesSaid : Prop := groupGoesRow.holds Tryz.pinned (OpenSpec.ofChange groupGoesSpec)

/-- ITS FALSE NEIGHBOUR: 'it returns false'. Refute it at one input. -/
def groupGoesWrong : ChangeSpec := { name := "groupGoes", fn := fun _ => fun
  | [d1, d2, d3] => { results := [.lit (.bool false)], args := [d1, d2, d3] }
  | _ => none }
def GroupGoesWrongFalsely : Prop := groupGoesRow.holds Tryz.pinned (OpenSpec.ofChange groupGoesWrong)

/-- 'suturelaw22.GroupCrashes': WHATEVER THE INPUT: true; the input reads as it did. -/
def groupCrashesSpec : ChangeSpec := { name := "groupCrashes", fn := fun _ => fun
  | [d1, d2, d3, d4] => { results := [.lit (.bool true)], args := [d1, d2, d3, d4] }
  | _ => none }
def groupCrashesRow : OpenClaim := { program := "ytnljdkglncmfaaagreat", sum := "001328ec5527aa0010ceb5750af4d97c53a40819895612d46cfce0e4c62893ce", func := "suture/suturelaw22.GroupCrashes", spec := "groupCrashes", unfollowed := true, recurses := true, apart := false }
def GroupCrashesSaid : Prop := groupCrashesRow.holds Tryz.pinned (OpenSpec.ofChange groupCrashesSpec)

/-- ITS FALSE NEIGHBOUR: 'it returns false'. Refute it at one input. -/
def groupCrashesWrong : ChangeSpec := { name := "groupCrashes", fn := fun _ => fun
  | [d1, d2, d3, d4] => { results := [.lit (.bool false)], args := [d1, d2, d3, d4] }
  | _ => none }
def GroupCrashesWrongFalsely : Prop := groupCrashesRow.holds Tryz.pinned (OpenSpec.ofChange groupCrashesWrong)

/-- 'suturelaw22.GroupRefuses': WHATEVER THE INPUT: true; the input reads as it did. -/
def groupRefusesSpec : ChangeSpec := { name := "groupRefuses", fn := fun _ => fun
  | [d1, d2, d3] => { results := [.lit (.bool true)], args := [d1, d2, d3] }
  | _ => none }
def groupRefusesRow : OpenClaim := { program := "ytnljdkglncmfaaagreat", sum := "001328ec5527aa0010ceb5750af4d97c53a40819895612d46cfce0e4c62893ce", func := "suture/suturelaw22.GroupRefuses", spec := "groupRefuses", unfollowed := true, recurses := true, apart := false }
def GroupRefusesSaid : Prop := groupRefusesRow.holds Tryz.pinned (OpenSpec.ofChange groupRefusesSpec)

/-- ITS FALSE NEIGHBOUR: 'it returns false'. Refute it at one input. -/
def groupRefusesWrong : ChangeSpec := { name := "groupRefuses", fn := fun _ => fun
  | [d1, d2, d3] => { results := [.lit (.bool false)], args := [d1, d2, d3] }
  | _ => none }
def GroupRefusesWrongFalsely : Prop := groupRefusesRow.holds Tryz.pinned (OpenSpec.ofChange groupRefusesWrong)

/- THE SECOND FORM. 'bulk': how many values and letters a reading holds, each counted each time it is reached (what is shared counts as often as it is met; a slice's spare places count too). A statement '..UptoSaid' is the law's where the arguments, and the package variables that the reading takes, are together of bulk at most 1048576: NARROWER than '..Said'. Prove '..Said' where nothing that the law and all that it calls make is longer than what came in: it says more and counts as full. Else prove '..UptoSaid'. A law counts once. -/
mutual
def uptoBulk {H : Type} : DataW H → Nat
  | .lit (.string bytes) => bytes.length + 1
  | .lit _ => 1
  | .nil => 1
  | .ptr d => uptoBulk d + 1
  | .slice elems spare => uptoBulkAll elems + uptoBulkAll spare + 1
  | .agg parts => uptoBulkAll parts + 1
  | .iface _ d => uptoBulk d + 1
  | .map entries => uptoBulkEntries entries + 1
  | .held _ => 1
def uptoBulkAll {H : Type} : List (DataW H) → Nat
  | [] => 0
  | d :: r => uptoBulk d + uptoBulkAll r
def uptoBulkEntries {H : Type} : List (Lit × DataW H) → Nat
  | [] => 0
  | x :: r => uptoBulkEntry x + uptoBulkEntries r
def uptoBulkEntry {H : Type} : Lit × DataW H → Nat
  | (.string bytes, d) => bytes.length + uptoBulk d + 1
  | (_, d) => uptoBulk d + 1
 end
def uptoSmall : (H : Type) → List (DataW H) → Bool := fun _ ds => decide (uptoBulkAll ds ≤ 1048576)
def OpenSpec.upto (s : _root_.Go.ChangeSpec) : _root_.Go.OpenSpec := { _root_.Go.OpenSpec.ofChange s with cond := some uptoSmall }

/-- 'suturelaw22.GroupLeaders', WHERE WHAT IT READS IS OF BULK AT MOST 1048576: true; the input reads as it did. -/
def groupLeadersUptoRow : OpenClaim := { program := "ytnljdkglncmfaaagreat", sum := "001328ec5527aa0010ceb5750af4d97c53a40819895612d46cfce0e4c62893ce", func := "suture/suturelaw22.GroupLeaders", spec := "groupLeaders", unfollowed := true, recurses := true, apart := false, narrowed := true }
def GroupLeadersUptoSaid : Prop := groupLeadersUptoRow.holds Tryz.pinned (OpenSpec.upto groupLeadersSpec)

/-- 'suturelaw22.GroupMatches', WHERE WHAT IT READS IS OF BULK AT MOST 1048576: true; the input reads as it did. -/
def groupMatchesUptoRow : OpenClaim := { program := "ytnljdkglncmfaaagreat", sum := "001328ec5527aa0010ceb5750af4d97c53a40819895612d46cfce0e4c62893ce", func := "suture/suturelaw22.GroupMatches", spec := "groupMatches", unfollowed := true, recurses := true, apart := false, narrowed := true }
def GroupMatchesUptoSaid : Prop := groupMatchesUptoRow.holds Tryz.pinned (OpenSpec.upto groupMatchesSpec)

/-- 'suturelaw22.GroupSettles', WHERE WHAT IT READS IS OF BULK AT MOST 1048576: true; the input reads as it did. -/
def groupSettlesUptoRow : OpenClaim := { program := "ytnljdkglncmfaaagreat", sum := "001328ec5527aa0010ceb5750af4d97c53a40819895612d46cfce0e4c62893ce", func := "suture/suturelaw22.GroupSettles", spec := "groupSettles", unfollowed := true, recurses := true, apart := false, narrowed := true }
def GroupSettlesUptoSaid : Prop := groupSettlesUptoRow.holds Tryz.pinned (OpenSpec.upto groupSettlesSpec)

/-- 'suturelaw22.GroupDoes', WHERE WHAT IT READS IS OF BULK AT MOST 1048576: true; the input reads as it did. -/
def groupDoesUptoRow : OpenClaim := { program := "ytnljdkglncmfaaagreat", sum := "001328ec5527aa0010ceb5750af4d97c53a40819895612d46cfce0e4c62893ce", func := "suture/suturelaw22.GroupDoes", spec := "groupDoes", unfollowed := true, recurses := true, apart := false, narrowed := true }
def GroupDoesUptoSaid : Prop := groupDoesUptoRow.holds Tryz.pinned (OpenSpec.upto groupDoesSpec)

/-- 'suturelaw22.GroupGoes', WHERE WHAT IT READS IS OF BULK AT MOST 1048576: true; the input reads as it did. -/
def groupGoesUptoRow : OpenClaim := { program := "ytnljdkglncmfaaagreat", sum := "001328ec5527aa0010ceb5750af4d97c53a40819895612d46cfce0e4c62893ce", func := "suture/suturelaw22.GroupGoes", spec := "groupGoes", unfollowed := true, recurses := true, apart := false, narrowed := true }
def GroupGoesUptoSaid : Prop := groupGoesUptoRow.holds Tryz.pinned (OpenSpec.upto groupGoesSpec)

/-- 'suturelaw22.GroupCrashes', WHERE WHAT IT READS IS OF BULK AT MOST 1048576: true; the input reads as it did. -/
def groupCrashesUptoRow : OpenClaim := { program := "ytnljdkglncmfaaagreat", sum := "001328ec5527aa0010ceb5750af4d97c53a40819895612d46cfce0e4c62893ce", func := "suture/suturelaw22.GroupCrashes", spec := "groupCrashes", unfollowed := true, recurses := true, apart := false, narrowed := true }
def GroupCrashesUptoSaid : Prop := groupCrashesUptoRow.holds Tryz.pinned (OpenSpec.upto groupCrashesSpec)

/-- 'suturelaw22.GroupRefuses', WHERE WHAT IT READS IS OF BULK AT MOST 1048576: true; the input reads as it did. -/
def groupRefusesUptoRow : OpenClaim := { program := "ytnljdkglncmfaaagreat", sum := "001328ec5527aa0010ceb5750af4d97c53a40819895612d46cfce0e4c62893ce", func := "suture/suturelaw22.GroupRefuses", spec := "groupRefuses", unfollowed := true, recurses := true, apart := false, narrowed := true }
def GroupRefusesUptoSaid : Prop := groupRefusesUptoRow.holds Tryz.pinned (OpenSpec.upto groupRefusesSpec)

end Rows
end Go.Proofs.YtnljdkglncmfaaaGreat
