/-
 The closed facts of the program.
-/
import Derived.Test.YtogbpifcmhafkaaGreatRows
import Derived.JoinedOf
import Derived.WalkKit
import Derived.ProofKit
import Derived.Test.YtogbpifcmhafkaaGreatTsA
import Derived.Test.YtogbpifcmhafkaaGreatTsB
import Derived.Test.YtogbpifcmhafkaaGreatTsC
import Derived.Test.YtogbpifcmhafkaaGreatTsD
import Derived.Test.YtogbpifcmhafkaaGreatTsE
import Derived.Test.YtogbpifcmhafkaaGreatTsF










namespace Go.Proofs.YtogbpifcmhafkaaGreat.topSame
open Go.ChangeShapes Go.WideShapes Go.ChangeAt Go.RowKit
theorem k0:(Rows.topSameRow.wf (OpenSpec.ofChange Rows.topSameSpec))=true:=by kernel_rfl
theorem k3:(Tryz.f3.params.all (Tryz.pinned.checked.prog.readableRec ·))=true:=by kernel_rfl
theorem k4:(namedTie Tryz.pinned.checked.prog Rows.topSameRow.named Rows.topSameSpec.vars)=true:=by kernel_rfl
theorem k5:((Rows.topSameRow.stops == []))=true:=by kernel_rfl
theorem k6:((Tryz.pinned.checked.prog.stops == []))=true:=by kernel_rfl
theorem k7:((Rows.topSameRow.knobs == []))=true:=by kernel_rfl
theorem k8:((Tryz.pinned.checked.prog.stopKnobs == []))=true:=by kernel_rfl
theorem k13:((Rows.topSameRow.maps == (Tryz.f3.params.toList ++ Rows.topSameSpec.plain.varTypes Tryz.pinned.checked.prog).any (Tryz.pinned.checked.prog.mapsRec ·)))=true:=by kernel_rfl
theorem k14:((Rows.topSameRow.ifaces == (Tryz.f3.params.toList ++ Rows.topSameSpec.plain.varTypes Tryz.pinned.checked.prog).any (Tryz.pinned.checked.prog.ifacesRec ·)))=true:=by kernel_rfl
theorem k15:((Rows.topSameRow.mapsOut == Tryz.pinned.checked.prog.mapsAmong Tryz.f3.resultTypes.toList))=true:=by kernel_rfl
theorem k16:((Rows.topSameRow.loops == (Tryz.f3.params.toList ++ Rows.topSameSpec.plain.varTypes Tryz.pinned.checked.prog).any (Tryz.pinned.checked.prog.loopsFrom ·)))=true:=by kernel_rfl
theorem k17:((Rows.topSameRow.wideKeys == (Tryz.f3.params.toList ++ Rows.topSameSpec.plain.varTypes Tryz.pinned.checked.prog ++ Tryz.f3.resultTypes.toList).any (Tryz.pinned.checked.prog.wideKeysFrom ·)))=true:=by kernel_rfl
theorem k18:(Rows.topSameSpec.vars.all (Tryz.pinned.checked.prog.varReadable ·))=true:=by kernel_rfl
theorem k19:(Tryz.f3.resultTypes.all (fun t=>Tryz.pinned.checked.prog.readableRec t && decide (t<Tryz.pinned.checked.prog.types.size)))=true:=by kernel_rfl
theorem k20:((Rows.topSameRow.ifacesOut == Tryz.f3.resultTypes.toList.any (Tryz.pinned.checked.prog.ifacesRec ·)))=true:=by kernel_rfl
theorem k21:((Rows.topSameRow.loopsOut == Tryz.f3.resultTypes.toList.any (Tryz.pinned.checked.prog.loopsFrom ·)))=true:=by kernel_rfl
theorem k22:((Rows.topSameRow.plainKeys == Tryz.pinned.checked.prog.plainKeys))=true:=by kernel_rfl
theorem k23:(Rows.topSameRow.shortTexts.isNone)=true:=by kernel_rfl
theorem k26:((Rows.topSameRow.lifted == Tryz.pinned.checked.prog.liftsFinal))=true:=by kernel_rfl
theorem k27:((Tryz.pinned.checked.prog.make == some Rows.topSameRow.make))=true:=by kernel_rfl
theorem k28:((Rows.topSameRow.kinds == (if Rows.topSameRow.domain.isEmpty then [] else Tryz.f3.params.toList.map fun t=>match Tryz.pinned.checked.prog.underlying t with | some (.int k)=>some k | _=>none)))=true:=by kernel_rfl
theorem k29:((Rows.topSameRow.pinned == Rows.topSameRow.pinnedBy))=true:=by kernel_rfl
theorem k30:((Rows.topSameRow.veiled == (Tryz.f3.params.toList ++ Rows.topSameSpec.plain.varTypes Tryz.pinned.checked.prog ++ Tryz.f3.resultTypes.toList).any (Tryz.pinned.checked.prog.veiledRec ·)))=true:=by kernel_rfl
theorem k31:(Rows.topSameRow.veiledFits Tryz.pinned.checked.prog Tryz.f3.params.toList (Tryz.f3.params.toList ++ Rows.topSameSpec.plain.varTypes Tryz.pinned.checked.prog ++ Tryz.f3.resultTypes.toList))=true:=by kernel_rfl
theorem named_:Tryz.pinned.checked.prog.funcNamed Rows.topSameRow.func=some 3:=by kernel_rfl
theorem and_ {a b:Bool} (h:a=true) (k:b=true):(a && b)=true:=by rw [h,k];rfl
set_option maxRecDepth 100000 in
theorem closed:joinedFacts Tryz.pinned.checked.prog 3 Tryz.f3 Rows.topSameSpec Rows.topSameRow=true:=by
 unfold joinedFacts
 exact (and_ (and_ (and_ (and_ (and_ (and_ (and_ (and_ (and_ (and_ (and_ (and_ (and_ (and_ (and_ (and_ (and_ (and_ (and_ (and_ (and_ (and_ (and_ (and_ (and_ (and_ (and_ (and_ (and_ (and_ (and_ k0 k1) k2) k3) k4) k5) k6) k7) k8) k9) k10) k11) k12) k13) k14) k15) k16) k17) k18) k19) k20) k21) k22) k23) k24) k25) k26) k27) k28) k29) k30) k31)
end Go.Proofs.YtogbpifcmhafkaaGreat.topSame
