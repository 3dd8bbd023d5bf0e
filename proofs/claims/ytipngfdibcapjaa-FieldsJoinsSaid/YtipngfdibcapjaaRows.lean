/-
  No cell of these rows narrows 'for every input' (looked for: loops, veiled, ifaces, maps, wideKeys, modest, calm, conditions, laid).
  DERIVED. THE GIVEN ROWS OF THIS SEAT. 8 by the template 'for every input the law returns true; each argument reads behind the call as it read before'; 0 by the template 'total and deterministic' (their statements: YtipngfdibcapjaaTotals.lean).
  GIVEN WITH THE SEED: the statements are not yours to turn. If you find one false, say at which input.
  Laid BY PROGRAM, IN A SANDBOX (cutbox-rows.mjs): the forced cells as the released guide's own fill.sh prints them over the translation b585d5e09e58e579… (all of the seat's roots in one cut). By AI agents, Wed Nov 11 2026. No macro, syntax, notation, axiom, sorry.
-/
import Derived.Test.YtipngfdibcapjaaChecked
import GoSem.Claim
import GoSem.ClaimJoined
import GoSem.ClaimMapViews
import Derived.JoinedTies
import Derived.KernelRfl
namespace Go.Proofs.Ytipngfdibcapjaa
/- THE CELL 'sum', in the pinned program and in every row, IS THE sha256 OF THE DUMP (.gsa) THAT YtipngfdibcapjaaProg.lean LOADS. Nothing in Lean hashes anything: it is a label: what it is worth is what the hold of that sum in a sandbox is worth. -/
noncomputable def Try.pinned : Pinned := { name := "ytipngfdibcapjaa", sum := "b585d5e09e58e579f060f6ca6289fd5d21869b69832fc12585d9f7892fab2469", checked := Try.checked }
namespace Rows
def none {H : Type} : Left H := { results := [], args := [] }

/-- 'suturelaw02.FieldsPacks': WHATEVER THE INPUT: true; the input reads as it did. -/
def fieldsPacksSpec : ChangeSpec := { name := "fieldsPacks", fn := fun _ => fun
  | [d1, d2] => { results := [.lit (.bool true)], args := [d1, d2] }
  | _ => none }
def fieldsPacksRow : OpenClaim := { program := "ytipngfdibcapjaa", sum := "b585d5e09e58e579f060f6ca6289fd5d21869b69832fc12585d9f7892fab2469", func := "suture/suturelaw02.FieldsPacks", spec := "fieldsPacks", unfollowed := true, recurses := true, apart := false }
def FieldsPacksSaid : Prop := fieldsPacksRow.holds Try.pinned (OpenSpec.ofChange fieldsPacksSpec)

/-- ITS FALSE NEIGHBOUR: 'it returns false'. Refute it at one input. -/
def fieldsPacksWrong : ChangeSpec := { name := "fieldsPacks", fn := fun _ => fun
  | [d1, d2] => { results := [.lit (.bool false)], args := [d1, d2] }
  | _ => none }
def FieldsPacksWrongFalsely : Prop := fieldsPacksRow.holds Try.pinned (OpenSpec.ofChange fieldsPacksWrong)

/-- 'suturelaw02.FieldsSizes': WHATEVER THE INPUT: true; the input reads as it did. -/
def fieldsSizesSpec : ChangeSpec := { name := "fieldsSizes", fn := fun _ => fun
  | [d1, d2] => { results := [.lit (.bool true)], args := [d1, d2] }
  | _ => none }
def fieldsSizesRow : OpenClaim := { program := "ytipngfdibcapjaa", sum := "b585d5e09e58e579f060f6ca6289fd5d21869b69832fc12585d9f7892fab2469", func := "suture/suturelaw02.FieldsSizes", spec := "fieldsSizes", unfollowed := true, recurses := true, apart := false }
def FieldsSizesSaid : Prop := fieldsSizesRow.holds Try.pinned (OpenSpec.ofChange fieldsSizesSpec)

/-- ITS FALSE NEIGHBOUR: 'it returns false'. Refute it at one input. -/
def fieldsSizesWrong : ChangeSpec := { name := "fieldsSizes", fn := fun _ => fun
  | [d1, d2] => { results := [.lit (.bool false)], args := [d1, d2] }
  | _ => none }
def FieldsSizesWrongFalsely : Prop := fieldsSizesRow.holds Try.pinned (OpenSpec.ofChange fieldsSizesWrong)

/-- 'suturelaw02.FieldsLong': WHATEVER THE INPUT: true; the input reads as it did. -/
def fieldsLongSpec : ChangeSpec := { name := "fieldsLong", fn := fun _ => fun
  | [d] => { results := [.lit (.bool true)], args := [d] }
  | _ => none }
def fieldsLongRow : OpenClaim := { program := "ytipngfdibcapjaa", sum := "b585d5e09e58e579f060f6ca6289fd5d21869b69832fc12585d9f7892fab2469", func := "suture/suturelaw02.FieldsLong", spec := "fieldsLong", unfollowed := true, recurses := true, apart := false }
def FieldsLongSaid : Prop := fieldsLongRow.holds Try.pinned (OpenSpec.ofChange fieldsLongSpec)

/-- ITS FALSE NEIGHBOUR: 'it returns false'. Refute it at one input. -/
def fieldsLongWrong : ChangeSpec := { name := "fieldsLong", fn := fun _ => fun
  | [d] => { results := [.lit (.bool false)], args := [d] }
  | _ => none }
def FieldsLongWrongFalsely : Prop := fieldsLongRow.holds Try.pinned (OpenSpec.ofChange fieldsLongWrong)

/-- 'suturelaw02.FieldsJoins': WHATEVER THE INPUT: true; the input reads as it did. -/
def fieldsJoinsSpec : ChangeSpec := { name := "fieldsJoins", fn := fun _ => fun
  | [d] => { results := [.lit (.bool true)], args := [d] }
  | _ => none }
def fieldsJoinsRow : OpenClaim := { program := "ytipngfdibcapjaa", sum := "b585d5e09e58e579f060f6ca6289fd5d21869b69832fc12585d9f7892fab2469", func := "suture/suturelaw02.FieldsJoins", spec := "fieldsJoins", unfollowed := true, recurses := true, apart := false }
def FieldsJoinsSaid : Prop := fieldsJoinsRow.holds Try.pinned (OpenSpec.ofChange fieldsJoinsSpec)

/-- ITS FALSE NEIGHBOUR: 'it returns false'. Refute it at one input. -/
def fieldsJoinsWrong : ChangeSpec := { name := "fieldsJoins", fn := fun _ => fun
  | [d] => { results := [.lit (.bool false)], args := [d] }
  | _ => none }
def FieldsJoinsWrongFalsely : Prop := fieldsJoinsRow.holds Try.pinned (OpenSpec.ofChange fieldsJoinsWrong)

/-- 'suturelaw02.FieldsCuts': WHATEVER THE INPUT: true; the input reads as it did. -/
def fieldsCutsSpec : ChangeSpec := { name := "fieldsCuts", fn := fun _ => fun
  | [d] => { results := [.lit (.bool true)], args := [d] }
  | _ => none }
def fieldsCutsRow : OpenClaim := { program := "ytipngfdibcapjaa", sum := "b585d5e09e58e579f060f6ca6289fd5d21869b69832fc12585d9f7892fab2469", func := "suture/suturelaw02.FieldsCuts", spec := "fieldsCuts", unfollowed := true, recurses := true, apart := false }
def FieldsCutsSaid : Prop := fieldsCutsRow.holds Try.pinned (OpenSpec.ofChange fieldsCutsSpec)

/-- ITS FALSE NEIGHBOUR: 'it returns false'. Refute it at one input. -/
def fieldsCutsWrong : ChangeSpec := { name := "fieldsCuts", fn := fun _ => fun
  | [d] => { results := [.lit (.bool false)], args := [d] }
  | _ => none }
def FieldsCutsWrongFalsely : Prop := fieldsCutsRow.holds Try.pinned (OpenSpec.ofChange fieldsCutsWrong)

/-- 'suturelaw02.FieldsBack': WHATEVER THE INPUT: true; the input reads as it did. -/
def fieldsBackSpec : ChangeSpec := { name := "fieldsBack", fn := fun _ => fun
  | [d1, d2] => { results := [.lit (.bool true)], args := [d1, d2] }
  | _ => none }
def fieldsBackRow : OpenClaim := { program := "ytipngfdibcapjaa", sum := "b585d5e09e58e579f060f6ca6289fd5d21869b69832fc12585d9f7892fab2469", func := "suture/suturelaw02.FieldsBack", spec := "fieldsBack", unfollowed := true, recurses := true, apart := false }
def FieldsBackSaid : Prop := fieldsBackRow.holds Try.pinned (OpenSpec.ofChange fieldsBackSpec)

/-- ITS FALSE NEIGHBOUR: 'it returns false'. Refute it at one input. -/
def fieldsBackWrong : ChangeSpec := { name := "fieldsBack", fn := fun _ => fun
  | [d1, d2] => { results := [.lit (.bool false)], args := [d1, d2] }
  | _ => none }
def FieldsBackWrongFalsely : Prop := fieldsBackRow.holds Try.pinned (OpenSpec.ofChange fieldsBackWrong)

/-- 'suturelaw02.FieldsOnce': WHATEVER THE INPUT: true; the input reads as it did. -/
def fieldsOnceSpec : ChangeSpec := { name := "fieldsOnce", fn := fun _ => fun
  | [d] => { results := [.lit (.bool true)], args := [d] }
  | _ => none }
def fieldsOnceRow : OpenClaim := { program := "ytipngfdibcapjaa", sum := "b585d5e09e58e579f060f6ca6289fd5d21869b69832fc12585d9f7892fab2469", func := "suture/suturelaw02.FieldsOnce", spec := "fieldsOnce", unfollowed := true, recurses := true, apart := false }
def FieldsOnceSaid : Prop := fieldsOnceRow.holds Try.pinned (OpenSpec.ofChange fieldsOnceSpec)

/-- ITS FALSE NEIGHBOUR: 'it returns false'. Refute it at one input. -/
def fieldsOnceWrong : ChangeSpec := { name := "fieldsOnce", fn := fun _ => fun
  | [d] => { results := [.lit (.bool false)], args := [d] }
  | _ => none }
def FieldsOnceWrongFalsely : Prop := fieldsOnceRow.holds Try.pinned (OpenSpec.ofChange fieldsOnceWrong)

/-- 'suturelaw02.FieldsShort': WHATEVER THE INPUT: true; the input reads as it did. -/
def fieldsShortSpec : ChangeSpec := { name := "fieldsShort", fn := fun _ => fun
  | [d1, d2] => { results := [.lit (.bool true)], args := [d1, d2] }
  | _ => none }
def fieldsShortRow : OpenClaim := { program := "ytipngfdibcapjaa", sum := "b585d5e09e58e579f060f6ca6289fd5d21869b69832fc12585d9f7892fab2469", func := "suture/suturelaw02.FieldsShort", spec := "fieldsShort", unfollowed := true, recurses := true, apart := false }
def FieldsShortSaid : Prop := fieldsShortRow.holds Try.pinned (OpenSpec.ofChange fieldsShortSpec)

/-- ITS FALSE NEIGHBOUR: 'it returns false'. Refute it at one input. -/
def fieldsShortWrong : ChangeSpec := { name := "fieldsShort", fn := fun _ => fun
  | [d1, d2] => { results := [.lit (.bool false)], args := [d1, d2] }
  | _ => none }
def FieldsShortWrongFalsely : Prop := fieldsShortRow.holds Try.pinned (OpenSpec.ofChange fieldsShortWrong)

/- THE SECOND FORM. 'bulk': how many values and letters a reading holds, each counted each time it is reached (what is shared counts as often as it is met; a slice's spare places count too). A statement '..UptoSaid' is the law's where the arguments, and the package variables that the reading takes, are together of bulk at most 1048576: NARROWER than '..Said'. Prove '..Said' where nothing that the law and all that it calls make is longer than what came in: it says more and counts as full. Else prove '..UptoSaid'. A law counts once. -/
mutual
def uptoBulk {H : Type} : DataW H → Nat
  | .lit (.string bytes) => bytes.length + 1
  | .lit _ => 1
  | .nil => 1
  | .ptr d => uptoBulk d + 1
  | .slice elems spare => uptoBulkAll elems + uptoBulkAll spare + 1
  | .agg parts => uptoBulkAll parts + 1
  | .iface _ d => uptoBulk d + 1
  | .map entries => uptoBulkEntries entries + 1
  | .held _ => 1
def uptoBulkAll {H : Type} : List (DataW H) → Nat
  | [] => 0
  | d :: r => uptoBulk d + uptoBulkAll r
def uptoBulkEntries {H : Type} : List (Lit × DataW H) → Nat
  | [] => 0
  | x :: r => uptoBulkEntry x + uptoBulkEntries r
def uptoBulkEntry {H : Type} : Lit × DataW H → Nat
  | (.string bytes, d) => bytes.length + uptoBulk d + 1
  | (_, d) => uptoBulk d + 1
 end
def uptoSmall : (H : Type) → List (DataW H) → Bool := fun _ ds => decide (uptoBulkAll ds ≤ 1048576)
def OpenSpec.upto (s : _root_.Go.ChangeSpec) : _root_.Go.OpenSpec := { _root_.Go.OpenSpec.ofChange s with cond := some uptoSmall }

/-- 'suturelaw02.FieldsPacks', WHERE WHAT IT READS IS OF BULK AT MOST 1048576: true; the input reads as it did. -/
def fieldsPacksUptoRow : OpenClaim := { program := "ytipngfdibcapjaa", sum := "b585d5e09e58e579f060f6ca6289fd5d21869b69832fc12585d9f7892fab2469", func := "suture/suturelaw02.FieldsPacks", spec := "fieldsPacks", unfollowed := true, recurses := true, apart := false, narrowed := true }
def FieldsPacksUptoSaid : Prop := fieldsPacksUptoRow.holds Try.pinned (OpenSpec.upto fieldsPacksSpec)

/-- 'suturelaw02.FieldsSizes', WHERE WHAT IT READS IS OF BULK AT MOST 1048576: true; the input reads as it did. -/
def fieldsSizesUptoRow : OpenClaim := { program := "ytipngfdibcapjaa", sum := "b585d5e09e58e579f060f6ca6289fd5d21869b69832fc12585d9f7892fab2469", func := "suture/suturelaw02.FieldsSizes", spec := "fieldsSizes", unfollowed := true, recurses := true, apart := false, narrowed := true }
def FieldsSizesUptoSaid : Prop := fieldsSizesUptoRow.holds Try.pinned (OpenSpec.upto fieldsSizesSpec)

/-- 'suturelaw02.FieldsLong', WHERE WHAT IT READS IS OF BULK AT MOST 1048576: true; the input reads as it did. -/
def fieldsLongUptoRow : OpenClaim := { program := "ytipngfdibcapjaa", sum := "b585d5e09e58e579f060f6ca6289fd5d21869b69832fc12585d9f7892fab2469", func := "suture/suturelaw02.FieldsLong", spec := "fieldsLong", unfollowed := true, recurses := true, apart := false, narrowed := true }
def FieldsLongUptoSaid : Prop := fieldsLongUptoRow.holds Try.pinned (OpenSpec.upto fieldsLongSpec)

/-- 'suturelaw02.FieldsJoins', WHERE WHAT IT READS IS OF BULK AT MOST 1048576: true; the input reads as it did. -/
def fieldsJoinsUptoRow : OpenClaim := { program := "ytipngfdibcapjaa", sum := "b585d5e09e58e579f060f6ca6289fd5d21869b69832fc12585d9f7892fab2469", func := "suture/suturelaw02.FieldsJoins", spec := "fieldsJoins", unfollowed := true, recurses := true, apart := false, narrowed := true }
def FieldsJoinsUptoSaid : Prop := fieldsJoinsUptoRow.holds Try.pinned (OpenSpec.upto fieldsJoinsSpec)

/-- 'suturelaw02.FieldsCuts', WHERE WHAT IT READS IS OF BULK AT MOST 1048576: true; the input reads as it did. -/
def fieldsCutsUptoRow : OpenClaim := { program := "ytipngfdibcapjaa", sum := "b585d5e09e58e579f060f6ca6289fd5d21869b69832fc12585d9f7892fab2469", func := "suture/suturelaw02.FieldsCuts", spec := "fieldsCuts", unfollowed := true, recurses := true, apart := false, narrowed := true }
def FieldsCutsUptoSaid : Prop := fieldsCutsUptoRow.holds Try.pinned (OpenSpec.upto fieldsCutsSpec)

/-- 'suturelaw02.FieldsBack', WHERE WHAT IT READS IS OF BULK AT MOST 1048576: true; the input reads as it did. -/
def fieldsBackUptoRow : OpenClaim := { program := "ytipngfdibcapjaa", sum := "b585d5e09e58e579f060f6ca6289fd5d21869b69832fc12585d9f7892fab2469", func := "suture/suturelaw02.FieldsBack", spec := "fieldsBack", unfollowed := true, recurses := true, apart := false, narrowed := true }
def FieldsBackUptoSaid : Prop := fieldsBackUptoRow.holds Try.pinned (OpenSpec.upto fieldsBackSpec)

/-- 'suturelaw02.FieldsOnce', WHERE WHAT IT READS IS OF BULK AT MOST 1048576: true; the input reads as it did. -/
def fieldsOnceUptoRow : OpenClaim := { program := "ytipngfdibcapjaa", sum := "b585d5e09e58e579f060f6ca6289fd5d21869b69832fc12585d9f7892fab2469", func := "suture/suturelaw02.FieldsOnce", spec := "fieldsOnce", unfollowed := true, recurses := true, apart := false, narrowed := true }
def FieldsOnceUptoSaid : Prop := fieldsOnceUptoRow.holds Try.pinned (OpenSpec.upto fieldsOnceSpec)

/-- 'suturelaw02.FieldsShort', WHERE WHAT IT READS IS OF BULK AT MOST 1048576: true; the input reads as it did. -/
def fieldsShortUptoRow : OpenClaim := { program := "ytipngfdibcapjaa", sum := "b585d5e09e58e579f060f6ca6289fd5d21869b69832fc12585d9f7892fab2469", func := "suture/suturelaw02.FieldsShort", spec := "fieldsShort", unfollowed := true, recurses := true, apart := false, narrowed := true }
def FieldsShortUptoSaid : Prop := fieldsShortUptoRow.holds Try.pinned (OpenSpec.upto fieldsShortSpec)

end Rows
end Go.Proofs.Ytipngfdibcapjaa
