/-
  No cell of these rows narrows 'for every input' (looked for: loops, veiled, ifaces, maps, wideKeys, modest, calm, conditions, laid).
  DERIVED. THE GIVEN ROWS OF THIS SEAT. 5 by the template 'for every input the law returns true; each argument reads behind the call as it read before'; 0 by the template 'total and deterministic' (their statements: YtlejbhgginolgaaTotals.lean).
  GIVEN WITH THE SEED: the statements are not yours to turn. If you find one false, say at which input.
  Laid BY PROGRAM, IN A SANDBOX (cutbox-rows.mjs): the forced cells as the released guide's own fill.sh prints them over the translation 3cb5412160814e0a… (all of the seat's roots in one cut). By AI agents, Wed Nov 11 2026. No macro, syntax, notation, axiom, sorry.
-/
import Derived.Test.YtlejbhgginolgaaChecked
import GoSem.Claim
import GoSem.ClaimJoined
import GoSem.ClaimMapViews
import Derived.JoinedTies
import Derived.KernelRfl
namespace Go.Proofs.Ytlejbhgginolgaa
/- THE CELL 'sum', in the pinned program and in every row, IS THE sha256 OF THE DUMP (.gsa) THAT YtlejbhgginolgaaProg.lean LOADS. Nothing in Lean hashes anything: it is a label: what it is worth is what the hold of that sum in a sandbox is worth. -/
noncomputable def Try.pinned : Pinned := { name := "ytlejbhgginolgaa", sum := "3cb5412160814e0ad9a311aa29cb9a26e2827ac625e792aba6880314ad1cc7ff", checked := Try.checked }
namespace Rows
def none {H : Type} : Left H := { results := [], args := [] }

/-- 'suturelaw07.RaftTimes': WHATEVER THE INPUT: true; the input reads as it did. -/
def raftTimesSpec : ChangeSpec := { name := "raftTimes", fn := fun _ => fun
  | [d1, d2, d3, d4, d5] => { results := [.lit (.bool true)], args := [d1, d2, d3, d4, d5] }
  | _ => none }
def raftTimesRow : OpenClaim := { program := "ytlejbhgginolgaa", sum := "3cb5412160814e0ad9a311aa29cb9a26e2827ac625e792aba6880314ad1cc7ff", func := "suture/suturelaw07.RaftTimes", spec := "raftTimes", unfollowed := true, recurses := true, apart := false }
def RaftTimesSaid : Prop := raftTimesRow.holds Try.pinned (OpenSpec.ofChange raftTimesSpec)

/-- ITS FALSE NEIGHBOUR: 'it returns false'. Refute it at one input. -/
def raftTimesWrong : ChangeSpec := { name := "raftTimes", fn := fun _ => fun
  | [d1, d2, d3, d4, d5] => { results := [.lit (.bool false)], args := [d1, d2, d3, d4, d5] }
  | _ => none }
def RaftTimesWrongFalsely : Prop := raftTimesRow.holds Try.pinned (OpenSpec.ofChange raftTimesWrong)

/-- 'suturelaw07.RaftLeads': WHATEVER THE INPUT: true; the input reads as it did. -/
def raftLeadsSpec : ChangeSpec := { name := "raftLeads", fn := fun _ => fun
  | [d1, d2, d3] => { results := [.lit (.bool true)], args := [d1, d2, d3] }
  | _ => none }
def raftLeadsRow : OpenClaim := { program := "ytlejbhgginolgaa", sum := "3cb5412160814e0ad9a311aa29cb9a26e2827ac625e792aba6880314ad1cc7ff", func := "suture/suturelaw07.RaftLeads", spec := "raftLeads", unfollowed := true, recurses := true, apart := false }
def RaftLeadsSaid : Prop := raftLeadsRow.holds Try.pinned (OpenSpec.ofChange raftLeadsSpec)

/-- ITS FALSE NEIGHBOUR: 'it returns false'. Refute it at one input. -/
def raftLeadsWrong : ChangeSpec := { name := "raftLeads", fn := fun _ => fun
  | [d1, d2, d3] => { results := [.lit (.bool false)], args := [d1, d2, d3] }
  | _ => none }
def RaftLeadsWrongFalsely : Prop := raftLeadsRow.holds Try.pinned (OpenSpec.ofChange raftLeadsWrong)

/-- 'suturelaw07.RaftDeaf': WHATEVER THE INPUT: true; the input reads as it did. -/
def raftDeafSpec : ChangeSpec := { name := "raftDeaf", fn := fun _ => fun
  | [d1, d2, d3, d4, d5] => { results := [.lit (.bool true)], args := [d1, d2, d3, d4, d5] }
  | _ => none }
def raftDeafRow : OpenClaim := { program := "ytlejbhgginolgaa", sum := "3cb5412160814e0ad9a311aa29cb9a26e2827ac625e792aba6880314ad1cc7ff", func := "suture/suturelaw07.RaftDeaf", spec := "raftDeaf", unfollowed := true, recurses := true, apart := false }
def RaftDeafSaid : Prop := raftDeafRow.holds Try.pinned (OpenSpec.ofChange raftDeafSpec)

/-- ITS FALSE NEIGHBOUR: 'it returns false'. Refute it at one input. -/
def raftDeafWrong : ChangeSpec := { name := "raftDeaf", fn := fun _ => fun
  | [d1, d2, d3, d4, d5] => { results := [.lit (.bool false)], args := [d1, d2, d3, d4, d5] }
  | _ => none }
def RaftDeafWrongFalsely : Prop := raftDeafRow.holds Try.pinned (OpenSpec.ofChange raftDeafWrong)

/-- 'suturelaw07.RaftFollows': WHATEVER THE INPUT: true; the input reads as it did. -/
def raftFollowsSpec : ChangeSpec := { name := "raftFollows", fn := fun _ => fun
  | [d1, d2, d3, d4, d5] => { results := [.lit (.bool true)], args := [d1, d2, d3, d4, d5] }
  | _ => none }
def raftFollowsRow : OpenClaim := { program := "ytlejbhgginolgaa", sum := "3cb5412160814e0ad9a311aa29cb9a26e2827ac625e792aba6880314ad1cc7ff", func := "suture/suturelaw07.RaftFollows", spec := "raftFollows", unfollowed := true, recurses := true, apart := false }
def RaftFollowsSaid : Prop := raftFollowsRow.holds Try.pinned (OpenSpec.ofChange raftFollowsSpec)

/-- ITS FALSE NEIGHBOUR: 'it returns false'. Refute it at one input. -/
def raftFollowsWrong : ChangeSpec := { name := "raftFollows", fn := fun _ => fun
  | [d1, d2, d3, d4, d5] => { results := [.lit (.bool false)], args := [d1, d2, d3, d4, d5] }
  | _ => none }
def RaftFollowsWrongFalsely : Prop := raftFollowsRow.holds Try.pinned (OpenSpec.ofChange raftFollowsWrong)

/-- 'suturelaw07.RaftRises': WHATEVER THE INPUT: true; the input reads as it did. -/
def raftRisesSpec : ChangeSpec := { name := "raftRises", fn := fun _ => fun
  | [d1, d2, d3, d4, d5] => { results := [.lit (.bool true)], args := [d1, d2, d3, d4, d5] }
  | _ => none }
def raftRisesRow : OpenClaim := { program := "ytlejbhgginolgaa", sum := "3cb5412160814e0ad9a311aa29cb9a26e2827ac625e792aba6880314ad1cc7ff", func := "suture/suturelaw07.RaftRises", spec := "raftRises", unfollowed := true, recurses := true, apart := false }
def RaftRisesSaid : Prop := raftRisesRow.holds Try.pinned (OpenSpec.ofChange raftRisesSpec)

/-- ITS FALSE NEIGHBOUR: 'it returns false'. Refute it at one input. -/
def raftRisesWrong : ChangeSpec := { name := "raftRises", fn := fun _ => fun
  | [d1, d2, d3, d4, d5] => { results := [.lit (.bool false)], args := [d1, d2, d3, d4, d5] }
  | _ => none }
def RaftRisesWrongFalsely : Prop := raftRisesRow.holds Try.pinned (OpenSpec.ofChange raftRisesWrong)

/- THE SECOND FORM. 'bulk': how many values and letters a reading holds, each counted each time it is reached (what is shared counts as often as it is met; a slice's spare places count too). A statement '..UptoSaid' is the law's where the arguments, and the package variables that the reading takes, are together of bulk at most 1048576: NARROWER than '..Said'. Prove '..Said' where nothing that the law and all that it calls make is longer than what came in: it says more and counts as full. Else prove '..UptoSaid'. A law counts once. -/
mutual
def uptoBulk {H : Type} : DataW H → Nat
  | .lit (.string bytes) => bytes.length + 1
  | .lit _ => 1
  | .nil => 1
  | .ptr d => uptoBulk d + 1
  | .slice elems spare => uptoBulkAll elems + uptoBulkAll spare + 1
  | .agg parts => uptoBulkAll parts + 1
  | .iface _ d => uptoBulk d + 1
  | .map entries => uptoBulkEntries entries + 1
  | .held _ => 1
def uptoBulkAll {H : Type} : List (DataW H) → Nat
  | [] => 0
  | d :: r => uptoBulk d + uptoBulkAll r
def uptoBulkEntries {H : Type} : List (Lit × DataW H) → Nat
  | [] => 0
  | x :: r => uptoBulkEntry x + uptoBulkEntries r
def uptoBulkEntry {H : Type} : Lit × DataW H → Nat
  | (.string bytes, d) => bytes.length + uptoBulk d + 1
  | (_, d) => uptoBulk d + 1
 end
def uptoSmall : (H : Type) → List (DataW H) → Bool := fun _ ds => decide (uptoBulkAll ds ≤ 1048576)
def OpenSpec.upto (s : _root_.Go.ChangeSpec) : _root_.Go.OpenSpec := { _root_.Go.OpenSpec.ofChange s with cond := some uptoSmall }

/-- 'suturelaw07.RaftTimes', WHERE WHAT IT READS IS OF BULK AT MOST 1048576: true; the input reads as it did. -/
def raftTimesUptoRow : OpenClaim := { program := "ytlejbhgginolgaa", sum := "3cb5412160814e0ad9a311aa29cb9a26e2827ac625e792aba6880314ad1cc7ff", func := "suture/suturelaw07.RaftTimes", spec := "raftTimes", unfollowed := true, recurses := true, apart := false, narrowed := true }
def RaftTimesUptoSaid : Prop := raftTimesUptoRow.holds Try.pinned (OpenSpec.upto raftTimesSpec)

/-- 'suturelaw07.RaftLeads', WHERE WHAT IT READS IS OF BULK AT MOST 1048576: true; the input reads as it did. -/
def raftLeadsUptoRow : OpenClaim := { program := "ytlejbhgginolgaa", sum := "3cb5412160814e0ad9a311aa29cb9a26e2827ac625e792aba6880314ad1cc7ff", func := "suture/suturelaw07.RaftLeads", spec := "raftLeads", unfollowed := true, recurses := true, apart := false, narrowed := true }
def RaftLeadsUptoSaid : Prop := raftLeadsUptoRow.holds Try.pinned (OpenSpec.upto raftLeadsSpec)

/-- 'suturelaw07.RaftDeaf', WHERE WHAT IT READS IS OF BULK AT MOST 1048576: true; the input reads as it did. -/
def raftDeafUptoRow : OpenClaim := { program := "ytlejbhgginolgaa", sum := "3cb5412160814e0ad9a311aa29cb9a26e2827ac625e792aba6880314ad1cc7ff", func := "suture/suturelaw07.RaftDeaf", spec := "raftDeaf", unfollowed := true, recurses := true, apart := false, narrowed := true }
def RaftDeafUptoSaid : Prop := raftDeafUptoRow.holds Try.pinned (OpenSpec.upto raftDeafSpec)

/-- 'suturelaw07.RaftFollows', WHERE WHAT IT READS IS OF BULK AT MOST 1048576: true; the input reads as it did. -/
def raftFollowsUptoRow : OpenClaim := { program := "ytlejbhgginolgaa", sum := "3cb5412160814e0ad9a311aa29cb9a26e2827ac625e792aba6880314ad1cc7ff", func := "suture/suturelaw07.RaftFollows", spec := "raftFollows", unfollowed := true, recurses := true, apart := false, narrowed := true }
def RaftFollowsUptoSaid : Prop := raftFollowsUptoRow.holds Try.pinned (OpenSpec.upto raftFollowsSpec)

/-- 'suturelaw07.RaftRises', WHERE WHAT IT READS IS OF BULK AT MOST 1048576: true; the input reads as it did. -/
def raftRisesUptoRow : OpenClaim := { program := "ytlejbhgginolgaa", sum := "3cb5412160814e0ad9a311aa29cb9a26e2827ac625e792aba6880314ad1cc7ff", func := "suture/suturelaw07.RaftRises", spec := "raftRises", unfollowed := true, recurses := true, apart := false, narrowed := true }
def RaftRisesUptoSaid : Prop := raftRisesUptoRow.holds Try.pinned (OpenSpec.upto raftRisesSpec)

end Rows
end Go.Proofs.Ytlejbhgginolgaa
