/-
  No cell of these rows narrows 'for every input' (looked for: loops, veiled, ifaces, maps, wideKeys, modest, calm, conditions, laid).
  DERIVED. THE GIVEN ROWS OF THIS SEAT. 12 by the template 'for every input the law returns true; each argument reads behind the call as it read before'; 0 by the template 'total and deterministic' (their statements: YtifbcdjabdfeeaaTotals.lean).
  GIVEN WITH THE SEED: the statements are not yours to turn. If you find one false, say at which input.
  Laid BY PROGRAM, IN A SANDBOX (cutbox-rows.mjs): the forced cells as the released guide's own fill.sh prints them over the translation 69fea1d8b0aa9015… (all of the seat's roots in one cut). By AI agents, Wed Nov 11 2026. No macro, syntax, notation, axiom, sorry.
-/
import Derived.Test.YtifbcdjabdfeeaaChecked
import GoSem.Claim
import GoSem.ClaimJoined
import GoSem.ClaimMapViews
import Derived.JoinedTies
import Derived.KernelRfl
namespace Go.Proofs.Ytifbcdjabdfeeaa
/- THE CELL 'sum', in the pinned program and in every row, IS THE sha256 OF THE DUMP (.gsa) THAT YtifbcdjabdfeeaaProg.lean LOADS. Nothing in Lean hashes anything: it is a label: what it is worth is what the hold of that sum in a sandbox is worth. -/
noncomputable def Try.pinned : Pinned := { name := "ytifbcdjabdfeeaa", sum := "69fea1d8b0aa9015bcc0893816c9bff1e5c30422d2fca38077fb60631aa146de", checked := Try.checked }
namespace Rows
def none {H : Type} : Left H := { results := [], args := [] }

/-- 'suturelaw05.VoteNewest': WHATEVER THE INPUT: true; the input reads as it did. -/
def voteNewestSpec : ChangeSpec := { name := "voteNewest", fn := fun _ => fun
  | [d1, d2, d3] => { results := [.lit (.bool true)], args := [d1, d2, d3] }
  | _ => none }
def voteNewestRow : OpenClaim := { program := "ytifbcdjabdfeeaa", sum := "69fea1d8b0aa9015bcc0893816c9bff1e5c30422d2fca38077fb60631aa146de", func := "suture/suturelaw05.VoteNewest", spec := "voteNewest", apart := false }
def VoteNewestSaid : Prop := voteNewestRow.holds Try.pinned (OpenSpec.ofChange voteNewestSpec)

/-- ITS FALSE NEIGHBOUR: 'it returns false'. Refute it at one input. -/
def voteNewestWrong : ChangeSpec := { name := "voteNewest", fn := fun _ => fun
  | [d1, d2, d3] => { results := [.lit (.bool false)], args := [d1, d2, d3] }
  | _ => none }
def VoteNewestWrongFalsely : Prop := voteNewestRow.holds Try.pinned (OpenSpec.ofChange voteNewestWrong)

/-- 'suturelaw05.VoteAgain': WHATEVER THE INPUT: true; the input reads as it did. -/
def voteAgainSpec : ChangeSpec := { name := "voteAgain", fn := fun _ => fun
  | [d1, d2, d3] => { results := [.lit (.bool true)], args := [d1, d2, d3] }
  | _ => none }
def voteAgainRow : OpenClaim := { program := "ytifbcdjabdfeeaa", sum := "69fea1d8b0aa9015bcc0893816c9bff1e5c30422d2fca38077fb60631aa146de", func := "suture/suturelaw05.VoteAgain", spec := "voteAgain", apart := false }
def VoteAgainSaid : Prop := voteAgainRow.holds Try.pinned (OpenSpec.ofChange voteAgainSpec)

/-- ITS FALSE NEIGHBOUR: 'it returns false'. Refute it at one input. -/
def voteAgainWrong : ChangeSpec := { name := "voteAgain", fn := fun _ => fun
  | [d1, d2, d3] => { results := [.lit (.bool false)], args := [d1, d2, d3] }
  | _ => none }
def VoteAgainWrongFalsely : Prop := voteAgainRow.holds Try.pinned (OpenSpec.ofChange voteAgainWrong)

/-- 'suturelaw05.VoteElects': WHATEVER THE INPUT: true; the input reads as it did. -/
def voteElectsSpec : ChangeSpec := { name := "voteElects", fn := fun _ => fun
  | [d1, d2, d3] => { results := [.lit (.bool true)], args := [d1, d2, d3] }
  | _ => none }
def voteElectsRow : OpenClaim := { program := "ytifbcdjabdfeeaa", sum := "69fea1d8b0aa9015bcc0893816c9bff1e5c30422d2fca38077fb60631aa146de", func := "suture/suturelaw05.VoteElects", spec := "voteElects", apart := false }
def VoteElectsSaid : Prop := voteElectsRow.holds Try.pinned (OpenSpec.ofChange voteElectsSpec)

/-- ITS FALSE NEIGHBOUR: 'it returns false'. Refute it at one input. -/
def voteElectsWrong : ChangeSpec := { name := "voteElects", fn := fun _ => fun
  | [d1, d2, d3] => { results := [.lit (.bool false)], args := [d1, d2, d3] }
  | _ => none }
def VoteElectsWrongFalsely : Prop := voteElectsRow.holds Try.pinned (OpenSpec.ofChange voteElectsWrong)

/-- 'suturelaw05.VoteGrants': WHATEVER THE INPUT: true; the input reads as it did. -/
def voteGrantsSpec : ChangeSpec := { name := "voteGrants", fn := fun _ => fun
  | [d1, d2, d3] => { results := [.lit (.bool true)], args := [d1, d2, d3] }
  | _ => none }
def voteGrantsRow : OpenClaim := { program := "ytifbcdjabdfeeaa", sum := "69fea1d8b0aa9015bcc0893816c9bff1e5c30422d2fca38077fb60631aa146de", func := "suture/suturelaw05.VoteGrants", spec := "voteGrants", apart := false }
def VoteGrantsSaid : Prop := voteGrantsRow.holds Try.pinned (OpenSpec.ofChange voteGrantsSpec)

/-- ITS FALSE NEIGHBOUR: 'it returns false'. Refute it at one input. -/
def voteGrantsWrong : ChangeSpec := { name := "voteGrants", fn := fun _ => fun
  | [d1, d2, d3] => { results := [.lit (.bool false)], args := [d1, d2, d3] }
  | _ => none }
def VoteGrantsWrongFalsely : Prop := voteGrantsRow.holds Try.pinned (OpenSpec.ofChange voteGrantsWrong)

/-- 'suturelaw05.VoteOnce': WHATEVER THE INPUT: true; the input reads as it did. -/
def voteOnceSpec : ChangeSpec := { name := "voteOnce", fn := fun _ => fun
  | [d1, d2, d3] => { results := [.lit (.bool true)], args := [d1, d2, d3] }
  | _ => none }
def voteOnceRow : OpenClaim := { program := "ytifbcdjabdfeeaa", sum := "69fea1d8b0aa9015bcc0893816c9bff1e5c30422d2fca38077fb60631aa146de", func := "suture/suturelaw05.VoteOnce", spec := "voteOnce", apart := false }
def VoteOnceSaid : Prop := voteOnceRow.holds Try.pinned (OpenSpec.ofChange voteOnceSpec)

/-- ITS FALSE NEIGHBOUR: 'it returns false'. Refute it at one input. -/
def voteOnceWrong : ChangeSpec := { name := "voteOnce", fn := fun _ => fun
  | [d1, d2, d3] => { results := [.lit (.bool false)], args := [d1, d2, d3] }
  | _ => none }
def VoteOnceWrongFalsely : Prop := voteOnceRow.holds Try.pinned (OpenSpec.ofChange voteOnceWrong)

/-- 'suturelaw05.VoteSees': WHATEVER THE INPUT: true; the input reads as it did. -/
def voteSeesSpec : ChangeSpec := { name := "voteSees", fn := fun _ => fun
  | [d1, d2, d3] => { results := [.lit (.bool true)], args := [d1, d2, d3] }
  | _ => none }
def voteSeesRow : OpenClaim := { program := "ytifbcdjabdfeeaa", sum := "69fea1d8b0aa9015bcc0893816c9bff1e5c30422d2fca38077fb60631aa146de", func := "suture/suturelaw05.VoteSees", spec := "voteSees", apart := false }
def VoteSeesSaid : Prop := voteSeesRow.holds Try.pinned (OpenSpec.ofChange voteSeesSpec)

/-- ITS FALSE NEIGHBOUR: 'it returns false'. Refute it at one input. -/
def voteSeesWrong : ChangeSpec := { name := "voteSees", fn := fun _ => fun
  | [d1, d2, d3] => { results := [.lit (.bool false)], args := [d1, d2, d3] }
  | _ => none }
def VoteSeesWrongFalsely : Prop := voteSeesRow.holds Try.pinned (OpenSpec.ofChange voteSeesWrong)

/-- 'suturelaw04.EntriesAdd': WHATEVER THE INPUT: true; the input reads as it did. -/
def entriesAddSpec : ChangeSpec := { name := "entriesAdd", fn := fun _ => fun
  | [d1, d2, d3, d4] => { results := [.lit (.bool true)], args := [d1, d2, d3, d4] }
  | _ => none }
def entriesAddRow : OpenClaim := { program := "ytifbcdjabdfeeaa", sum := "69fea1d8b0aa9015bcc0893816c9bff1e5c30422d2fca38077fb60631aa146de", func := "suture/suturelaw04.EntriesAdd", spec := "entriesAdd", apart := false }
def EntriesAddSaid : Prop := entriesAddRow.holds Try.pinned (OpenSpec.ofChange entriesAddSpec)

/-- ITS FALSE NEIGHBOUR: 'it returns false'. Refute it at one input. -/
def entriesAddWrong : ChangeSpec := { name := "entriesAdd", fn := fun _ => fun
  | [d1, d2, d3, d4] => { results := [.lit (.bool false)], args := [d1, d2, d3, d4] }
  | _ => none }
def EntriesAddWrongFalsely : Prop := entriesAddRow.holds Try.pinned (OpenSpec.ofChange entriesAddWrong)

/-- 'suturelaw04.EntriesNewer': WHATEVER THE INPUT: true; the input reads as it did. -/
def entriesNewerSpec : ChangeSpec := { name := "entriesNewer", fn := fun _ => fun
  | [d1, d2, d3, d4, d5, d6] => { results := [.lit (.bool true)], args := [d1, d2, d3, d4, d5, d6] }
  | _ => none }
def entriesNewerRow : OpenClaim := { program := "ytifbcdjabdfeeaa", sum := "69fea1d8b0aa9015bcc0893816c9bff1e5c30422d2fca38077fb60631aa146de", func := "suture/suturelaw04.EntriesNewer", spec := "entriesNewer", apart := false }
def EntriesNewerSaid : Prop := entriesNewerRow.holds Try.pinned (OpenSpec.ofChange entriesNewerSpec)

/-- ITS FALSE NEIGHBOUR: 'it returns false'. Refute it at one input. -/
def entriesNewerWrong : ChangeSpec := { name := "entriesNewer", fn := fun _ => fun
  | [d1, d2, d3, d4, d5, d6] => { results := [.lit (.bool false)], args := [d1, d2, d3, d4, d5, d6] }
  | _ => none }
def EntriesNewerWrongFalsely : Prop := entriesNewerRow.holds Try.pinned (OpenSpec.ofChange entriesNewerWrong)

/-- 'suturelaw04.EntriesThere': WHATEVER THE INPUT: true; the input reads as it did. -/
def entriesThereSpec : ChangeSpec := { name := "entriesThere", fn := fun _ => fun
  | [d1, d2, d3, d4] => { results := [.lit (.bool true)], args := [d1, d2, d3, d4] }
  | _ => none }
def entriesThereRow : OpenClaim := { program := "ytifbcdjabdfeeaa", sum := "69fea1d8b0aa9015bcc0893816c9bff1e5c30422d2fca38077fb60631aa146de", func := "suture/suturelaw04.EntriesThere", spec := "entriesThere", apart := false }
def EntriesThereSaid : Prop := entriesThereRow.holds Try.pinned (OpenSpec.ofChange entriesThereSpec)

/-- ITS FALSE NEIGHBOUR: 'it returns false'. Refute it at one input. -/
def entriesThereWrong : ChangeSpec := { name := "entriesThere", fn := fun _ => fun
  | [d1, d2, d3, d4] => { results := [.lit (.bool false)], args := [d1, d2, d3, d4] }
  | _ => none }
def EntriesThereWrongFalsely : Prop := entriesThereRow.holds Try.pinned (OpenSpec.ofChange entriesThereWrong)

/-- 'suturelaw04.EntriesKeeps': WHATEVER THE INPUT: true; the input reads as it did. -/
def entriesKeepsSpec : ChangeSpec := { name := "entriesKeeps", fn := fun _ => fun
  | [d1, d2, d3] => { results := [.lit (.bool true)], args := [d1, d2, d3] }
  | _ => none }
def entriesKeepsRow : OpenClaim := { program := "ytifbcdjabdfeeaa", sum := "69fea1d8b0aa9015bcc0893816c9bff1e5c30422d2fca38077fb60631aa146de", func := "suture/suturelaw04.EntriesKeeps", spec := "entriesKeeps", apart := false }
def EntriesKeepsSaid : Prop := entriesKeepsRow.holds Try.pinned (OpenSpec.ofChange entriesKeepsSpec)

/-- ITS FALSE NEIGHBOUR: 'it returns false'. Refute it at one input. -/
def entriesKeepsWrong : ChangeSpec := { name := "entriesKeeps", fn := fun _ => fun
  | [d1, d2, d3] => { results := [.lit (.bool false)], args := [d1, d2, d3] }
  | _ => none }
def EntriesKeepsWrongFalsely : Prop := entriesKeepsRow.holds Try.pinned (OpenSpec.ofChange entriesKeepsWrong)

/-- 'suturelaw04.EntriesGoes': WHATEVER THE INPUT: true; the input reads as it did. -/
def entriesGoesSpec : ChangeSpec := { name := "entriesGoes", fn := fun _ => fun
  | [d1, d2, d3, d4] => { results := [.lit (.bool true)], args := [d1, d2, d3, d4] }
  | _ => none }
def entriesGoesRow : OpenClaim := { program := "ytifbcdjabdfeeaa", sum := "69fea1d8b0aa9015bcc0893816c9bff1e5c30422d2fca38077fb60631aa146de", func := "suture/suturelaw04.EntriesGoes", spec := "entriesGoes", apart := false }
def EntriesGoesSaid : Prop := entriesGoesRow.holds Try.pinned (OpenSpec.ofChange entriesGoesSpec)

/-- ITS FALSE NEIGHBOUR: 'it returns false'. Refute it at one input. -/
def entriesGoesWrong : ChangeSpec := { name := "entriesGoes", fn := fun _ => fun
  | [d1, d2, d3, d4] => { results := [.lit (.bool false)], args := [d1, d2, d3, d4] }
  | _ => none }
def EntriesGoesWrongFalsely : Prop := entriesGoesRow.holds Try.pinned (OpenSpec.ofChange entriesGoesWrong)

/-- 'suturelaw04.EntriesTell': WHATEVER THE INPUT: true; the input reads as it did. -/
def entriesTellSpec : ChangeSpec := { name := "entriesTell", fn := fun _ => fun
  | [d1, d2, d3, d4] => { results := [.lit (.bool true)], args := [d1, d2, d3, d4] }
  | _ => none }
def entriesTellRow : OpenClaim := { program := "ytifbcdjabdfeeaa", sum := "69fea1d8b0aa9015bcc0893816c9bff1e5c30422d2fca38077fb60631aa146de", func := "suture/suturelaw04.EntriesTell", spec := "entriesTell", apart := false }
def EntriesTellSaid : Prop := entriesTellRow.holds Try.pinned (OpenSpec.ofChange entriesTellSpec)

/-- ITS FALSE NEIGHBOUR: 'it returns false'. Refute it at one input. -/
def entriesTellWrong : ChangeSpec := { name := "entriesTell", fn := fun _ => fun
  | [d1, d2, d3, d4] => { results := [.lit (.bool false)], args := [d1, d2, d3, d4] }
  | _ => none }
def EntriesTellWrongFalsely : Prop := entriesTellRow.holds Try.pinned (OpenSpec.ofChange entriesTellWrong)

/- THE SECOND FORM. 'bulk': how many values and letters a reading holds, each counted each time it is reached (what is shared counts as often as it is met; a slice's spare places count too). A statement '..UptoSaid' is the law's where the arguments, and the package variables that the reading takes, are together of bulk at most 1048576: NARROWER than '..Said'. Prove '..Said' where nothing that the law and all that it calls make is longer than what came in: it says more and counts as full. Else prove '..UptoSaid'. A law counts once. -/
mutual
def uptoBulk {H : Type} : DataW H → Nat
  | .lit (.string bytes) => bytes.length + 1
  | .lit _ => 1
  | .nil => 1
  | .ptr d => uptoBulk d + 1
  | .slice elems spare => uptoBulkAll elems + uptoBulkAll spare + 1
  | .agg parts => uptoBulkAll parts + 1
  | .iface _ d => uptoBulk d + 1
  | .map entries => uptoBulkEntries entries + 1
  | .held _ => 1
def uptoBulkAll {H : Type} : List (DataW H) → Nat
  | [] => 0
  | d :: r => uptoBulk d + uptoBulkAll r
def uptoBulkEntries {H : Type} : List (Lit × DataW H) → Nat
  | [] => 0
  | x :: r => uptoBulkEntry x + uptoBulkEntries r
def uptoBulkEntry {H : Type} : Lit × DataW H → Nat
  | (.string bytes, d) => bytes.length + uptoBulk d + 1
  | (_, d) => uptoBulk d + 1
 end
def uptoSmall : (H : Type) → List (DataW H) → Bool := fun _ ds => decide (uptoBulkAll ds ≤ 1048576)
def OpenSpec.upto (s : _root_.Go.ChangeSpec) : _root_.Go.OpenSpec := { _root_.Go.OpenSpec.ofChange s with cond := some uptoSmall }

/-- 'suturelaw05.VoteNewest', WHERE WHAT IT READS IS OF BULK AT MOST 1048576: true; the input reads as it did. -/
def voteNewestUptoRow : OpenClaim := { program := "ytifbcdjabdfeeaa", sum := "69fea1d8b0aa9015bcc0893816c9bff1e5c30422d2fca38077fb60631aa146de", func := "suture/suturelaw05.VoteNewest", spec := "voteNewest", apart := false, narrowed := true }
def VoteNewestUptoSaid : Prop := voteNewestUptoRow.holds Try.pinned (OpenSpec.upto voteNewestSpec)

/-- 'suturelaw05.VoteAgain', WHERE WHAT IT READS IS OF BULK AT MOST 1048576: true; the input reads as it did. -/
def voteAgainUptoRow : OpenClaim := { program := "ytifbcdjabdfeeaa", sum := "69fea1d8b0aa9015bcc0893816c9bff1e5c30422d2fca38077fb60631aa146de", func := "suture/suturelaw05.VoteAgain", spec := "voteAgain", apart := false, narrowed := true }
def VoteAgainUptoSaid : Prop := voteAgainUptoRow.holds Try.pinned (OpenSpec.upto voteAgainSpec)

/-- 'suturelaw05.VoteElects', WHERE WHAT IT READS IS OF BULK AT MOST 1048576: true; the input reads as it did. -/
def voteElectsUptoRow : OpenClaim := { program := "ytifbcdjabdfeeaa", sum := "69fea1d8b0aa9015bcc0893816c9bff1e5c30422d2fca38077fb60631aa146de", func := "suture/suturelaw05.VoteElects", spec := "voteElects", apart := false, narrowed := true }
def VoteElectsUptoSaid : Prop := voteElectsUptoRow.holds Try.pinned (OpenSpec.upto voteElectsSpec)

/-- 'suturelaw05.VoteGrants', WHERE WHAT IT READS IS OF BULK AT MOST 1048576: true; the input reads as it did. -/
def voteGrantsUptoRow : OpenClaim := { program := "ytifbcdjabdfeeaa", sum := "69fea1d8b0aa9015bcc0893816c9bff1e5c30422d2fca38077fb60631aa146de", func := "suture/suturelaw05.VoteGrants", spec := "voteGrants", apart := false, narrowed := true }
def VoteGrantsUptoSaid : Prop := voteGrantsUptoRow.holds Try.pinned (OpenSpec.upto voteGrantsSpec)

/-- 'suturelaw05.VoteOnce', WHERE WHAT IT READS IS OF BULK AT MOST 1048576: true; the input reads as it did. -/
def voteOnceUptoRow : OpenClaim := { program := "ytifbcdjabdfeeaa", sum := "69fea1d8b0aa9015bcc0893816c9bff1e5c30422d2fca38077fb60631aa146de", func := "suture/suturelaw05.VoteOnce", spec := "voteOnce", apart := false, narrowed := true }
def VoteOnceUptoSaid : Prop := voteOnceUptoRow.holds Try.pinned (OpenSpec.upto voteOnceSpec)

/-- 'suturelaw05.VoteSees', WHERE WHAT IT READS IS OF BULK AT MOST 1048576: true; the input reads as it did. -/
def voteSeesUptoRow : OpenClaim := { program := "ytifbcdjabdfeeaa", sum := "69fea1d8b0aa9015bcc0893816c9bff1e5c30422d2fca38077fb60631aa146de", func := "suture/suturelaw05.VoteSees", spec := "voteSees", apart := false, narrowed := true }
def VoteSeesUptoSaid : Prop := voteSeesUptoRow.holds Try.pinned (OpenSpec.upto voteSeesSpec)

/-- 'suturelaw04.EntriesAdd', WHERE WHAT IT READS IS OF BULK AT MOST 1048576: true; the input reads as it did. -/
def entriesAddUptoRow : OpenClaim := { program := "ytifbcdjabdfeeaa", sum := "69fea1d8b0aa9015bcc0893816c9bff1e5c30422d2fca38077fb60631aa146de", func := "suture/suturelaw04.EntriesAdd", spec := "entriesAdd", apart := false, narrowed := true }
def EntriesAddUptoSaid : Prop := entriesAddUptoRow.holds Try.pinned (OpenSpec.upto entriesAddSpec)

/-- 'suturelaw04.EntriesNewer', WHERE WHAT IT READS IS OF BULK AT MOST 1048576: true; the input reads as it did. -/
def entriesNewerUptoRow : OpenClaim := { program := "ytifbcdjabdfeeaa", sum := "69fea1d8b0aa9015bcc0893816c9bff1e5c30422d2fca38077fb60631aa146de", func := "suture/suturelaw04.EntriesNewer", spec := "entriesNewer", apart := false, narrowed := true }
def EntriesNewerUptoSaid : Prop := entriesNewerUptoRow.holds Try.pinned (OpenSpec.upto entriesNewerSpec)

/-- 'suturelaw04.EntriesThere', WHERE WHAT IT READS IS OF BULK AT MOST 1048576: true; the input reads as it did. -/
def entriesThereUptoRow : OpenClaim := { program := "ytifbcdjabdfeeaa", sum := "69fea1d8b0aa9015bcc0893816c9bff1e5c30422d2fca38077fb60631aa146de", func := "suture/suturelaw04.EntriesThere", spec := "entriesThere", apart := false, narrowed := true }
def EntriesThereUptoSaid : Prop := entriesThereUptoRow.holds Try.pinned (OpenSpec.upto entriesThereSpec)

/-- 'suturelaw04.EntriesKeeps', WHERE WHAT IT READS IS OF BULK AT MOST 1048576: true; the input reads as it did. -/
def entriesKeepsUptoRow : OpenClaim := { program := "ytifbcdjabdfeeaa", sum := "69fea1d8b0aa9015bcc0893816c9bff1e5c30422d2fca38077fb60631aa146de", func := "suture/suturelaw04.EntriesKeeps", spec := "entriesKeeps", apart := false, narrowed := true }
def EntriesKeepsUptoSaid : Prop := entriesKeepsUptoRow.holds Try.pinned (OpenSpec.upto entriesKeepsSpec)

/-- 'suturelaw04.EntriesGoes', WHERE WHAT IT READS IS OF BULK AT MOST 1048576: true; the input reads as it did. -/
def entriesGoesUptoRow : OpenClaim := { program := "ytifbcdjabdfeeaa", sum := "69fea1d8b0aa9015bcc0893816c9bff1e5c30422d2fca38077fb60631aa146de", func := "suture/suturelaw04.EntriesGoes", spec := "entriesGoes", apart := false, narrowed := true }
def EntriesGoesUptoSaid : Prop := entriesGoesUptoRow.holds Try.pinned (OpenSpec.upto entriesGoesSpec)

/-- 'suturelaw04.EntriesTell', WHERE WHAT IT READS IS OF BULK AT MOST 1048576: true; the input reads as it did. -/
def entriesTellUptoRow : OpenClaim := { program := "ytifbcdjabdfeeaa", sum := "69fea1d8b0aa9015bcc0893816c9bff1e5c30422d2fca38077fb60631aa146de", func := "suture/suturelaw04.EntriesTell", spec := "entriesTell", apart := false, narrowed := true }
def EntriesTellUptoSaid : Prop := entriesTellUptoRow.holds Try.pinned (OpenSpec.upto entriesTellSpec)

end Rows
end Go.Proofs.Ytifbcdjabdfeeaa
