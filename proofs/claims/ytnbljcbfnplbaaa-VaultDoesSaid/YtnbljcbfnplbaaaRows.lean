/-
  No cell of these rows narrows 'for every input' (looked for: loops, veiled, ifaces, maps, wideKeys, modest, calm, conditions, laid).
  DERIVED. THE GIVEN ROWS OF THIS SEAT. 6 by the template 'for every input the law returns true; each argument reads behind the call as it read before'; 0 by the template 'total and deterministic' (their statements: YtnbljcbfnplbaaaTotals.lean).
  GIVEN WITH THE SEED: the statements are not yours to turn. If you find one false, say at which input.
  Laid BY PROGRAM, IN A SANDBOX (cutbox-rows.mjs): the forced cells as the released guide's own fill.sh prints them over the translation 938b5cf0df68361c… (all of the seat's roots in one cut). By AI agents, Wed Nov 11 2026. No macro, syntax, notation, axiom, sorry.
-/
import Derived.Test.YtnbljcbfnplbaaaChecked
import GoSem.Claim
import GoSem.ClaimJoined
import GoSem.ClaimMapViews
import Derived.JoinedTies
import Derived.KernelRfl
namespace Go.Proofs.Ytnbljcbfnplbaaa
/- THE CELL 'sum', in the pinned program and in every row, IS THE sha256 OF THE DUMP (.gsa) THAT YtnbljcbfnplbaaaProg.lean LOADS. Nothing in Lean hashes anything: it is a label: what it is worth is what the hold of that sum in a sandbox is worth. -/
noncomputable def Try.pinned : Pinned := { name := "ytnbljcbfnplbaaa", sum := "938b5cf0df68361c78d9f248b9c289ff92143dcf6132c41a9a198f58fe52e943", checked := Try.checked }
namespace Rows
def none {H : Type} : Left H := { results := [], args := [] }

/-- 'suturelaw08.VaultLasts': WHATEVER THE INPUT: true; the input reads as it did. -/
def vaultLastsSpec : ChangeSpec := { name := "vaultLasts", fn := fun _ => fun
  | [d1, d2, d3, d4, d5] => { results := [.lit (.bool true)], args := [d1, d2, d3, d4, d5] }
  | _ => none }
def vaultLastsRow : OpenClaim := { program := "ytnbljcbfnplbaaa", sum := "938b5cf0df68361c78d9f248b9c289ff92143dcf6132c41a9a198f58fe52e943", func := "suture/suturelaw08.VaultLasts", spec := "vaultLasts", unfollowed := true, recurses := true, apart := false }
def VaultLastsSaid : Prop := vaultLastsRow.holds Try.pinned (OpenSpec.ofChange vaultLastsSpec)

/-- ITS FALSE NEIGHBOUR: 'it returns false'. Refute it at one input. -/
def vaultLastsWrong : ChangeSpec := { name := "vaultLasts", fn := fun _ => fun
  | [d1, d2, d3, d4, d5] => { results := [.lit (.bool false)], args := [d1, d2, d3, d4, d5] }
  | _ => none }
def VaultLastsWrongFalsely : Prop := vaultLastsRow.holds Try.pinned (OpenSpec.ofChange vaultLastsWrong)

/-- 'suturelaw08.VaultBetween': WHATEVER THE INPUT: true; the input reads as it did. -/
def vaultBetweenSpec : ChangeSpec := { name := "vaultBetween", fn := fun _ => fun
  | [d1, d2, d3, d4, d5] => { results := [.lit (.bool true)], args := [d1, d2, d3, d4, d5] }
  | _ => none }
def vaultBetweenRow : OpenClaim := { program := "ytnbljcbfnplbaaa", sum := "938b5cf0df68361c78d9f248b9c289ff92143dcf6132c41a9a198f58fe52e943", func := "suture/suturelaw08.VaultBetween", spec := "vaultBetween", unfollowed := true, recurses := true, apart := false }
def VaultBetweenSaid : Prop := vaultBetweenRow.holds Try.pinned (OpenSpec.ofChange vaultBetweenSpec)

/-- ITS FALSE NEIGHBOUR: 'it returns false'. Refute it at one input. -/
def vaultBetweenWrong : ChangeSpec := { name := "vaultBetween", fn := fun _ => fun
  | [d1, d2, d3, d4, d5] => { results := [.lit (.bool false)], args := [d1, d2, d3, d4, d5] }
  | _ => none }
def VaultBetweenWrongFalsely : Prop := vaultBetweenRow.holds Try.pinned (OpenSpec.ofChange vaultBetweenWrong)

/-- 'suturelaw08.VaultDoes': WHATEVER THE INPUT: true; the input reads as it did. -/
def vaultDoesSpec : ChangeSpec := { name := "vaultDoes", fn := fun _ => fun
  | [d] => { results := [.lit (.bool true)], args := [d] }
  | _ => none }
def vaultDoesRow : OpenClaim := { program := "ytnbljcbfnplbaaa", sum := "938b5cf0df68361c78d9f248b9c289ff92143dcf6132c41a9a198f58fe52e943", func := "suture/suturelaw08.VaultDoes", spec := "vaultDoes", unfollowed := true, recurses := true, apart := false }
def VaultDoesSaid : Prop := vaultDoesRow.holds Try.pinned (OpenSpec.ofChange vaultDoesSpec)

/-- ITS FALSE NEIGHBOUR: 'it returns false'. Refute it at one input. -/
def vaultDoesWrong : ChangeSpec := { name := "vaultDoes", fn := fun _ => fun
  | [d] => { results := [.lit (.bool false)], args := [d] }
  | _ => none }
def VaultDoesWrongFalsely : Prop := vaultDoesRow.holds Try.pinned (OpenSpec.ofChange vaultDoesWrong)

/-- 'suturelaw08.VaultAgain': WHATEVER THE INPUT: true; the input reads as it did. -/
def vaultAgainSpec : ChangeSpec := { name := "vaultAgain", fn := fun _ => fun
  | [d1, d2, d3] => { results := [.lit (.bool true)], args := [d1, d2, d3] }
  | _ => none }
def vaultAgainRow : OpenClaim := { program := "ytnbljcbfnplbaaa", sum := "938b5cf0df68361c78d9f248b9c289ff92143dcf6132c41a9a198f58fe52e943", func := "suture/suturelaw08.VaultAgain", spec := "vaultAgain", unfollowed := true, recurses := true, apart := false }
def VaultAgainSaid : Prop := vaultAgainRow.holds Try.pinned (OpenSpec.ofChange vaultAgainSpec)

/-- ITS FALSE NEIGHBOUR: 'it returns false'. Refute it at one input. -/
def vaultAgainWrong : ChangeSpec := { name := "vaultAgain", fn := fun _ => fun
  | [d1, d2, d3] => { results := [.lit (.bool false)], args := [d1, d2, d3] }
  | _ => none }
def VaultAgainWrongFalsely : Prop := vaultAgainRow.holds Try.pinned (OpenSpec.ofChange vaultAgainWrong)

/-- 'suturelaw08.VaultReads': WHATEVER THE INPUT: true; the input reads as it did. -/
def vaultReadsSpec : ChangeSpec := { name := "vaultReads", fn := fun _ => fun
  | [d] => { results := [.lit (.bool true)], args := [d] }
  | _ => none }
def vaultReadsRow : OpenClaim := { program := "ytnbljcbfnplbaaa", sum := "938b5cf0df68361c78d9f248b9c289ff92143dcf6132c41a9a198f58fe52e943", func := "suture/suturelaw08.VaultReads", spec := "vaultReads", unfollowed := true, recurses := true, apart := false }
def VaultReadsSaid : Prop := vaultReadsRow.holds Try.pinned (OpenSpec.ofChange vaultReadsSpec)

/-- ITS FALSE NEIGHBOUR: 'it returns false'. Refute it at one input. -/
def vaultReadsWrong : ChangeSpec := { name := "vaultReads", fn := fun _ => fun
  | [d] => { results := [.lit (.bool false)], args := [d] }
  | _ => none }
def VaultReadsWrongFalsely : Prop := vaultReadsRow.holds Try.pinned (OpenSpec.ofChange vaultReadsWrong)

/-- 'suturelaw08.VaultWhole': WHATEVER THE INPUT: true; the input reads as it did. -/
def vaultWholeSpec : ChangeSpec := { name := "vaultWhole", fn := fun _ => fun
  | [d1, d2, d3] => { results := [.lit (.bool true)], args := [d1, d2, d3] }
  | _ => none }
def vaultWholeRow : OpenClaim := { program := "ytnbljcbfnplbaaa", sum := "938b5cf0df68361c78d9f248b9c289ff92143dcf6132c41a9a198f58fe52e943", func := "suture/suturelaw08.VaultWhole", spec := "vaultWhole", unfollowed := true, recurses := true, apart := false }
def VaultWholeSaid : Prop := vaultWholeRow.holds Try.pinned (OpenSpec.ofChange vaultWholeSpec)

/-- ITS FALSE NEIGHBOUR: 'it returns false'. Refute it at one input. -/
def vaultWholeWrong : ChangeSpec := { name := "vaultWhole", fn := fun _ => fun
  | [d1, d2, d3] => { results := [.lit (.bool false)], args := [d1, d2, d3] }
  | _ => none }
def VaultWholeWrongFalsely : Prop := vaultWholeRow.holds Try.pinned (OpenSpec.ofChange vaultWholeWrong)

/- THE SECOND FORM. 'bulk': how many values and letters a reading holds, each counted each time it is reached (what is shared counts as often as it is met; a slice's spare places count too). A statement '..UptoSaid' is the law's where the arguments, and the package variables that the reading takes, are together of bulk at most 1048576: NARROWER than '..Said'. Prove '..Said' where nothing that the law and all that it calls make is longer than what came in: it says more and counts as full. Else prove '..UptoSaid'. A law counts once. -/
mutual
def uptoBulk {H : Type} : DataW H → Nat
  | .lit (.string bytes) => bytes.length + 1
  | .lit _ => 1
  | .nil => 1
  | .ptr d => uptoBulk d + 1
  | .slice elems spare => uptoBulkAll elems + uptoBulkAll spare + 1
  | .agg parts => uptoBulkAll parts + 1
  | .iface _ d => uptoBulk d + 1
  | .map entries => uptoBulkEntries entries + 1
  | .held _ => 1
def uptoBulkAll {H : Type} : List (DataW H) → Nat
  | [] => 0
  | d :: r => uptoBulk d + uptoBulkAll r
def uptoBulkEntries {H : Type} : List (Lit × DataW H) → Nat
  | [] => 0
  | x :: r => uptoBulkEntry x + uptoBulkEntries r
def uptoBulkEntry {H : Type} : Lit × DataW H → Nat
  | (.string bytes, d) => bytes.length + uptoBulk d + 1
  | (_, d) => uptoBulk d + 1
 end
def uptoSmall : (H : Type) → List (DataW H) → Bool := fun _ ds => decide (uptoBulkAll ds ≤ 1048576)
def OpenSpec.upto (s : _root_.Go.ChangeSpec) : _root_.Go.OpenSpec := { _root_.Go.OpenSpec.ofChange s with cond := some uptoSmall }

/-- 'suturelaw08.VaultLasts', WHERE WHAT IT READS IS OF BULK AT MOST 1048576: true; the input reads as it did. -/
def vaultLastsUptoRow : OpenClaim := { program := "ytnbljcbfnplbaaa", sum := "938b5cf0df68361c78d9f248b9c289ff92143dcf6132c41a9a198f58fe52e943", func := "suture/suturelaw08.VaultLasts", spec := "vaultLasts", unfollowed := true, recurses := true, apart := false, narrowed := true }
def VaultLastsUptoSaid : Prop := vaultLastsUptoRow.holds Try.pinned (OpenSpec.upto vaultLastsSpec)

/-- 'suturelaw08.VaultBetween', WHERE WHAT IT READS IS OF BULK AT MOST 1048576: true; the input reads as it did. -/
def vaultBetweenUptoRow : OpenClaim := { program := "ytnbljcbfnplbaaa", sum := "938b5cf0df68361c78d9f248b9c289ff92143dcf6132c41a9a198f58fe52e943", func := "suture/suturelaw08.VaultBetween", spec := "vaultBetween", unfollowed := true, recurses := true, apart := false, narrowed := true }
def VaultBetweenUptoSaid : Prop := vaultBetweenUptoRow.holds Try.pinned (OpenSpec.upto vaultBetweenSpec)

/-- 'suturelaw08.VaultDoes', WHERE WHAT IT READS IS OF BULK AT MOST 1048576: true; the input reads as it did. -/
def vaultDoesUptoRow : OpenClaim := { program := "ytnbljcbfnplbaaa", sum := "938b5cf0df68361c78d9f248b9c289ff92143dcf6132c41a9a198f58fe52e943", func := "suture/suturelaw08.VaultDoes", spec := "vaultDoes", unfollowed := true, recurses := true, apart := false, narrowed := true }
def VaultDoesUptoSaid : Prop := vaultDoesUptoRow.holds Try.pinned (OpenSpec.upto vaultDoesSpec)

/-- 'suturelaw08.VaultAgain', WHERE WHAT IT READS IS OF BULK AT MOST 1048576: true; the input reads as it did. -/
def vaultAgainUptoRow : OpenClaim := { program := "ytnbljcbfnplbaaa", sum := "938b5cf0df68361c78d9f248b9c289ff92143dcf6132c41a9a198f58fe52e943", func := "suture/suturelaw08.VaultAgain", spec := "vaultAgain", unfollowed := true, recurses := true, apart := false, narrowed := true }
def VaultAgainUptoSaid : Prop := vaultAgainUptoRow.holds Try.pinned (OpenSpec.upto vaultAgainSpec)

/-- 'suturelaw08.VaultReads', WHERE WHAT IT READS IS OF BULK AT MOST 1048576: true; the input reads as it did. -/
def vaultReadsUptoRow : OpenClaim := { program := "ytnbljcbfnplbaaa", sum := "938b5cf0df68361c78d9f248b9c289ff92143dcf6132c41a9a198f58fe52e943", func := "suture/suturelaw08.VaultReads", spec := "vaultReads", unfollowed := true, recurses := true, apart := false, narrowed := true }
def VaultReadsUptoSaid : Prop := vaultReadsUptoRow.holds Try.pinned (OpenSpec.upto vaultReadsSpec)

/-- 'suturelaw08.VaultWhole', WHERE WHAT IT READS IS OF BULK AT MOST 1048576: true; the input reads as it did. -/
def vaultWholeUptoRow : OpenClaim := { program := "ytnbljcbfnplbaaa", sum := "938b5cf0df68361c78d9f248b9c289ff92143dcf6132c41a9a198f58fe52e943", func := "suture/suturelaw08.VaultWhole", spec := "vaultWhole", unfollowed := true, recurses := true, apart := false, narrowed := true }
def VaultWholeUptoSaid : Prop := vaultWholeUptoRow.holds Try.pinned (OpenSpec.upto vaultWholeSpec)

end Rows
end Go.Proofs.Ytnbljcbfnplbaaa
