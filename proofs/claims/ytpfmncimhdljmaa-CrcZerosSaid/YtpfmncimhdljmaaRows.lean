/-
  No cell of these rows narrows 'for every input' (looked for: loops, veiled, ifaces, maps, wideKeys, modest, calm, conditions, laid).
  DERIVED. THE GIVEN ROWS OF THIS SEAT. 8 by the template 'for every input the law returns true; each argument reads behind the call as it read before'; 0 by the template 'total and deterministic' (their statements: YtpfmncimhdljmaaTotals.lean).
  GIVEN WITH THE SEED: the statements are not yours to turn. If you find one false, say at which input.
  Laid BY PROGRAM, IN A SANDBOX (cutbox-rows.mjs): the forced cells as the released guide's own fill.sh prints them over the translation 42e2232d6a101e1f… (all of the seat's roots in one cut). By AI agents, Wed Nov 11 2026. No macro, syntax, notation, axiom, sorry.
-/
import Derived.Test.YtpfmncimhdljmaaChecked
import GoSem.Claim
import GoSem.ClaimJoined
import GoSem.ClaimMapViews
import Derived.JoinedTies
import Derived.KernelRfl
namespace Go.Proofs.Ytpfmncimhdljmaa
/- THE CELL 'sum', in the pinned program and in every row, IS THE sha256 OF THE DUMP (.gsa) THAT YtpfmncimhdljmaaProg.lean LOADS. Nothing in Lean hashes anything: it is a label: what it is worth is what the hold of that sum in a sandbox is worth. -/
noncomputable def Try.pinned : Pinned := { name := "ytpfmncimhdljmaa", sum := "42e2232d6a101e1f3acabff0362046563f614c10009ad6e4d3bb2bd325ccf5c7", checked := Try.checked }
namespace Rows
def none {H : Type} : Left H := { results := [], args := [] }

/-- 'suturelaw01.CrcSums': WHATEVER THE INPUT: true; the input reads as it did. -/
def crcSumsSpec : ChangeSpec := { name := "crcSums", fn := fun _ => fun
  | [d1, d2, d3] => { results := [.lit (.bool true)], args := [d1, d2, d3] }
  | _ => none }
def crcSumsRow : OpenClaim := { program := "ytpfmncimhdljmaa", sum := "42e2232d6a101e1f3acabff0362046563f614c10009ad6e4d3bb2bd325ccf5c7", func := "suture/suturelaw01.CrcSums", spec := "crcSums", apart := false }
def CrcSumsSaid : Prop := crcSumsRow.holds Try.pinned (OpenSpec.ofChange crcSumsSpec)

/-- ITS FALSE NEIGHBOUR: 'it returns false'. Refute it at one input. -/
def crcSumsWrong : ChangeSpec := { name := "crcSums", fn := fun _ => fun
  | [d1, d2, d3] => { results := [.lit (.bool false)], args := [d1, d2, d3] }
  | _ => none }
def CrcSumsWrongFalsely : Prop := crcSumsRow.holds Try.pinned (OpenSpec.ofChange crcSumsWrong)

/-- 'suturelaw01.CrcLinear': WHATEVER THE INPUT: true; the input reads as it did. -/
def crcLinearSpec : ChangeSpec := { name := "crcLinear", fn := fun _ => fun
  | [d1, d2, d3] => { results := [.lit (.bool true)], args := [d1, d2, d3] }
  | _ => none }
def crcLinearRow : OpenClaim := { program := "ytpfmncimhdljmaa", sum := "42e2232d6a101e1f3acabff0362046563f614c10009ad6e4d3bb2bd325ccf5c7", func := "suture/suturelaw01.CrcLinear", spec := "crcLinear", apart := false }
def CrcLinearSaid : Prop := crcLinearRow.holds Try.pinned (OpenSpec.ofChange crcLinearSpec)

/-- ITS FALSE NEIGHBOUR: 'it returns false'. Refute it at one input. -/
def crcLinearWrong : ChangeSpec := { name := "crcLinear", fn := fun _ => fun
  | [d1, d2, d3] => { results := [.lit (.bool false)], args := [d1, d2, d3] }
  | _ => none }
def CrcLinearWrongFalsely : Prop := crcLinearRow.holds Try.pinned (OpenSpec.ofChange crcLinearWrong)

/-- 'suturelaw01.CrcCuts': WHATEVER THE INPUT: true; the input reads as it did. -/
def crcCutsSpec : ChangeSpec := { name := "crcCuts", fn := fun _ => fun
  | [d1, d2] => { results := [.lit (.bool true)], args := [d1, d2] }
  | _ => none }
def crcCutsRow : OpenClaim := { program := "ytpfmncimhdljmaa", sum := "42e2232d6a101e1f3acabff0362046563f614c10009ad6e4d3bb2bd325ccf5c7", func := "suture/suturelaw01.CrcCuts", spec := "crcCuts", apart := false }
def CrcCutsSaid : Prop := crcCutsRow.holds Try.pinned (OpenSpec.ofChange crcCutsSpec)

/-- ITS FALSE NEIGHBOUR: 'it returns false'. Refute it at one input. -/
def crcCutsWrong : ChangeSpec := { name := "crcCuts", fn := fun _ => fun
  | [d1, d2] => { results := [.lit (.bool false)], args := [d1, d2] }
  | _ => none }
def CrcCutsWrongFalsely : Prop := crcCutsRow.holds Try.pinned (OpenSpec.ofChange crcCutsWrong)

/-- 'suturelaw01.CrcZeros': WHATEVER THE INPUT: true; the input reads as it did. -/
def crcZerosSpec : ChangeSpec := { name := "crcZeros", fn := fun _ => fun
  | [d1, d2, d3] => { results := [.lit (.bool true)], args := [d1, d2, d3] }
  | _ => none }
def crcZerosRow : OpenClaim := { program := "ytpfmncimhdljmaa", sum := "42e2232d6a101e1f3acabff0362046563f614c10009ad6e4d3bb2bd325ccf5c7", func := "suture/suturelaw01.CrcZeros", spec := "crcZeros", apart := false }
def CrcZerosSaid : Prop := crcZerosRow.holds Try.pinned (OpenSpec.ofChange crcZerosSpec)

/-- ITS FALSE NEIGHBOUR: 'it returns false'. Refute it at one input. -/
def crcZerosWrong : ChangeSpec := { name := "crcZeros", fn := fun _ => fun
  | [d1, d2, d3] => { results := [.lit (.bool false)], args := [d1, d2, d3] }
  | _ => none }
def CrcZerosWrongFalsely : Prop := crcZerosRow.holds Try.pinned (OpenSpec.ofChange crcZerosWrong)

/-- 'suturelaw01.CrcNibbles': WHATEVER THE INPUT: true; the input reads as it did. -/
def crcNibblesSpec : ChangeSpec := { name := "crcNibbles", fn := fun _ => fun
  | [d1, d2] => { results := [.lit (.bool true)], args := [d1, d2] }
  | _ => none }
def crcNibblesRow : OpenClaim := { program := "ytpfmncimhdljmaa", sum := "42e2232d6a101e1f3acabff0362046563f614c10009ad6e4d3bb2bd325ccf5c7", func := "suture/suturelaw01.CrcNibbles", spec := "crcNibbles", apart := false }
def CrcNibblesSaid : Prop := crcNibblesRow.holds Try.pinned (OpenSpec.ofChange crcNibblesSpec)

/-- ITS FALSE NEIGHBOUR: 'it returns false'. Refute it at one input. -/
def crcNibblesWrong : ChangeSpec := { name := "crcNibbles", fn := fun _ => fun
  | [d1, d2] => { results := [.lit (.bool false)], args := [d1, d2] }
  | _ => none }
def CrcNibblesWrongFalsely : Prop := crcNibblesRow.holds Try.pinned (OpenSpec.ofChange crcNibblesWrong)

/-- 'suturelaw01.CrcSeals': WHATEVER THE INPUT: true; the input reads as it did. -/
def crcSealsSpec : ChangeSpec := { name := "crcSeals", fn := fun _ => fun
  | [d] => { results := [.lit (.bool true)], args := [d] }
  | _ => none }
def crcSealsRow : OpenClaim := { program := "ytpfmncimhdljmaa", sum := "42e2232d6a101e1f3acabff0362046563f614c10009ad6e4d3bb2bd325ccf5c7", func := "suture/suturelaw01.CrcSeals", spec := "crcSeals", apart := false }
def CrcSealsSaid : Prop := crcSealsRow.holds Try.pinned (OpenSpec.ofChange crcSealsSpec)

/-- ITS FALSE NEIGHBOUR: 'it returns false'. Refute it at one input. -/
def crcSealsWrong : ChangeSpec := { name := "crcSeals", fn := fun _ => fun
  | [d] => { results := [.lit (.bool false)], args := [d] }
  | _ => none }
def CrcSealsWrongFalsely : Prop := crcSealsRow.holds Try.pinned (OpenSpec.ofChange crcSealsWrong)

/-- 'suturelaw01.CrcGoes': WHATEVER THE INPUT: true; the input reads as it did. -/
def crcGoesSpec : ChangeSpec := { name := "crcGoes", fn := fun _ => fun
  | [d1, d2] => { results := [.lit (.bool true)], args := [d1, d2] }
  | _ => none }
def crcGoesRow : OpenClaim := { program := "ytpfmncimhdljmaa", sum := "42e2232d6a101e1f3acabff0362046563f614c10009ad6e4d3bb2bd325ccf5c7", func := "suture/suturelaw01.CrcGoes", spec := "crcGoes", apart := false }
def CrcGoesSaid : Prop := crcGoesRow.holds Try.pinned (OpenSpec.ofChange crcGoesSpec)

/-- ITS FALSE NEIGHBOUR: 'it returns false'. Refute it at one input. -/
def crcGoesWrong : ChangeSpec := { name := "crcGoes", fn := fun _ => fun
  | [d1, d2] => { results := [.lit (.bool false)], args := [d1, d2] }
  | _ => none }
def CrcGoesWrongFalsely : Prop := crcGoesRow.holds Try.pinned (OpenSpec.ofChange crcGoesWrong)

/-- 'suturelaw01.CrcBursts': WHATEVER THE INPUT: true; the input reads as it did. -/
def crcBurstsSpec : ChangeSpec := { name := "crcBursts", fn := fun _ => fun
  | [d1, d2, d3] => { results := [.lit (.bool true)], args := [d1, d2, d3] }
  | _ => none }
def crcBurstsRow : OpenClaim := { program := "ytpfmncimhdljmaa", sum := "42e2232d6a101e1f3acabff0362046563f614c10009ad6e4d3bb2bd325ccf5c7", func := "suture/suturelaw01.CrcBursts", spec := "crcBursts", apart := false }
def CrcBurstsSaid : Prop := crcBurstsRow.holds Try.pinned (OpenSpec.ofChange crcBurstsSpec)

/-- ITS FALSE NEIGHBOUR: 'it returns false'. Refute it at one input. -/
def crcBurstsWrong : ChangeSpec := { name := "crcBursts", fn := fun _ => fun
  | [d1, d2, d3] => { results := [.lit (.bool false)], args := [d1, d2, d3] }
  | _ => none }
def CrcBurstsWrongFalsely : Prop := crcBurstsRow.holds Try.pinned (OpenSpec.ofChange crcBurstsWrong)

/- THE SECOND FORM. 'bulk': how many values and letters a reading holds, each counted each time it is reached (what is shared counts as often as it is met; a slice's spare places count too). A statement '..UptoSaid' is the law's where the arguments, and the package variables that the reading takes, are together of bulk at most 1048576: NARROWER than '..Said'. Prove '..Said' where nothing that the law and all that it calls make is longer than what came in: it says more and counts as full. Else prove '..UptoSaid'. A law counts once. -/
mutual
def uptoBulk {H : Type} : DataW H → Nat
  | .lit (.string bytes) => bytes.length + 1
  | .lit _ => 1
  | .nil => 1
  | .ptr d => uptoBulk d + 1
  | .slice elems spare => uptoBulkAll elems + uptoBulkAll spare + 1
  | .agg parts => uptoBulkAll parts + 1
  | .iface _ d => uptoBulk d + 1
  | .map entries => uptoBulkEntries entries + 1
  | .held _ => 1
def uptoBulkAll {H : Type} : List (DataW H) → Nat
  | [] => 0
  | d :: r => uptoBulk d + uptoBulkAll r
def uptoBulkEntries {H : Type} : List (Lit × DataW H) → Nat
  | [] => 0
  | x :: r => uptoBulkEntry x + uptoBulkEntries r
def uptoBulkEntry {H : Type} : Lit × DataW H → Nat
  | (.string bytes, d) => bytes.length + uptoBulk d + 1
  | (_, d) => uptoBulk d + 1
 end
def uptoSmall : (H : Type) → List (DataW H) → Bool := fun _ ds => decide (uptoBulkAll ds ≤ 1048576)
def OpenSpec.upto (s : _root_.Go.ChangeSpec) : _root_.Go.OpenSpec := { _root_.Go.OpenSpec.ofChange s with cond := some uptoSmall }

/-- 'suturelaw01.CrcSums', WHERE WHAT IT READS IS OF BULK AT MOST 1048576: true; the input reads as it did. -/
def crcSumsUptoRow : OpenClaim := { program := "ytpfmncimhdljmaa", sum := "42e2232d6a101e1f3acabff0362046563f614c10009ad6e4d3bb2bd325ccf5c7", func := "suture/suturelaw01.CrcSums", spec := "crcSums", apart := false, narrowed := true }
def CrcSumsUptoSaid : Prop := crcSumsUptoRow.holds Try.pinned (OpenSpec.upto crcSumsSpec)

/-- 'suturelaw01.CrcLinear', WHERE WHAT IT READS IS OF BULK AT MOST 1048576: true; the input reads as it did. -/
def crcLinearUptoRow : OpenClaim := { program := "ytpfmncimhdljmaa", sum := "42e2232d6a101e1f3acabff0362046563f614c10009ad6e4d3bb2bd325ccf5c7", func := "suture/suturelaw01.CrcLinear", spec := "crcLinear", apart := false, narrowed := true }
def CrcLinearUptoSaid : Prop := crcLinearUptoRow.holds Try.pinned (OpenSpec.upto crcLinearSpec)

/-- 'suturelaw01.CrcCuts', WHERE WHAT IT READS IS OF BULK AT MOST 1048576: true; the input reads as it did. -/
def crcCutsUptoRow : OpenClaim := { program := "ytpfmncimhdljmaa", sum := "42e2232d6a101e1f3acabff0362046563f614c10009ad6e4d3bb2bd325ccf5c7", func := "suture/suturelaw01.CrcCuts", spec := "crcCuts", apart := false, narrowed := true }
def CrcCutsUptoSaid : Prop := crcCutsUptoRow.holds Try.pinned (OpenSpec.upto crcCutsSpec)

/-- 'suturelaw01.CrcZeros', WHERE WHAT IT READS IS OF BULK AT MOST 1048576: true; the input reads as it did. -/
def crcZerosUptoRow : OpenClaim := { program := "ytpfmncimhdljmaa", sum := "42e2232d6a101e1f3acabff0362046563f614c10009ad6e4d3bb2bd325ccf5c7", func := "suture/suturelaw01.CrcZeros", spec := "crcZeros", apart := false, narrowed := true }
def CrcZerosUptoSaid : Prop := crcZerosUptoRow.holds Try.pinned (OpenSpec.upto crcZerosSpec)

/-- 'suturelaw01.CrcNibbles', WHERE WHAT IT READS IS OF BULK AT MOST 1048576: true; the input reads as it did. -/
def crcNibblesUptoRow : OpenClaim := { program := "ytpfmncimhdljmaa", sum := "42e2232d6a101e1f3acabff0362046563f614c10009ad6e4d3bb2bd325ccf5c7", func := "suture/suturelaw01.CrcNibbles", spec := "crcNibbles", apart := false, narrowed := true }
def CrcNibblesUptoSaid : Prop := crcNibblesUptoRow.holds Try.pinned (OpenSpec.upto crcNibblesSpec)

/-- 'suturelaw01.CrcSeals', WHERE WHAT IT READS IS OF BULK AT MOST 1048576: true; the input reads as it did. -/
def crcSealsUptoRow : OpenClaim := { program := "ytpfmncimhdljmaa", sum := "42e2232d6a101e1f3acabff0362046563f614c10009ad6e4d3bb2bd325ccf5c7", func := "suture/suturelaw01.CrcSeals", spec := "crcSeals", apart := false, narrowed := true }
def CrcSealsUptoSaid : Prop := crcSealsUptoRow.holds Try.pinned (OpenSpec.upto crcSealsSpec)

/-- 'suturelaw01.CrcGoes', WHERE WHAT IT READS IS OF BULK AT MOST 1048576: true; the input reads as it did. -/
def crcGoesUptoRow : OpenClaim := { program := "ytpfmncimhdljmaa", sum := "42e2232d6a101e1f3acabff0362046563f614c10009ad6e4d3bb2bd325ccf5c7", func := "suture/suturelaw01.CrcGoes", spec := "crcGoes", apart := false, narrowed := true }
def CrcGoesUptoSaid : Prop := crcGoesUptoRow.holds Try.pinned (OpenSpec.upto crcGoesSpec)

/-- 'suturelaw01.CrcBursts', WHERE WHAT IT READS IS OF BULK AT MOST 1048576: true; the input reads as it did. -/
def crcBurstsUptoRow : OpenClaim := { program := "ytpfmncimhdljmaa", sum := "42e2232d6a101e1f3acabff0362046563f614c10009ad6e4d3bb2bd325ccf5c7", func := "suture/suturelaw01.CrcBursts", spec := "crcBursts", apart := false, narrowed := true }
def CrcBurstsUptoSaid : Prop := crcBurstsUptoRow.holds Try.pinned (OpenSpec.upto crcBurstsSpec)

end Rows
end Go.Proofs.Ytpfmncimhdljmaa
