/-
 What is proved: the law suturetop.TopSame returns true for every input: of two clusters, one is told what happens once, the other one the same twice as slowly, with reads and waits of no ticks in between: both come to the same.
 Conditions: none; any items (a nil slice too). The law itself asks for at most 100 items.
-/
import Derived.Test.YtogbpifcmhafkaaGreatRows
import Derived.WalkKit
import Derived.Test.YtogbpifcmhafkaaGreatTsG
import Derived.ProofKit
import Derived.OpenShut
import Derived.ShutString
import Derived.ChangeOld
import Derived.Below
import Derived.Test.YtogbpifcmhafkaaGreatPZT
import Derived.Test.YtogbpifcmhafkaaGreatPZ










namespace Go.Proofs.YtogbpifcmhafkaaGreat.topSame
open Go.ChangeShapes Go.WideShapes Go.ChangeAt Go.RowKit
open Go.ChangeMaps (open_string shut_string)
set_option linter.unusedVariables false
theorem own:ownKnob Tryz.prog.godebug=none:=by kernel_rfl
theorem laidOut:laidOutB Tryz.prog=true:=k1
theorem walk (r0a r0b r0c r0d r0e r0f:Int) (a1:Option Addr) (cap1:Nat) (ms1:List ItW) (a2:Int) (w:World) (w0:True) (w1:ItemsW w a1 cap1 ms1) (w2:(Lit.int .i64 a2).wf=true) :
  Calls Tryz.prog 3 #[.agg #[.int .i64 r0a,.int .i64 r0b,.int .i64 r0c,.int .i64 r0d,.int .i64 r0e,.int .i64 r0f],.slice a1 ms1.length cap1,.int .i64 a2] w fun e w'=>e=.returned (.bool true)/\Below w.heap.size w w':=by
 exact topSame_walk (fun W=>sameAwake_any W) r0a r0b r0c r0d r0e r0f a2 a1 cap1 ms1 w w1 w2
set_option maxRecDepth 100000 in
theorem lifted (os:Os) (started:os.Started) (H:Type) (enc:TypeId × Value -> H) :
  ReturnsInHanded {} Tryz.checked os 3 .any (Rows.topSameSpec.pre6 enc Tryz.prog Tryz.f3 Rows.topSameRow.domain false) (Rows.topSameSpec.post enc Tryz.prog Tryz.f3 false true false false):=by
 refine returnsInHanded_of_change (C:=Tryz.checked) own started (by kernel_rfl) Tryz.func3
  (ChangeSpec.witness6 (enc:=enc) (C:=Tryz.checked) false ⟨#[],#[.agg #[.int .i64 0,.int .i64 0,.int .i64 0,.int .i64 0,.int .i64 0,.int .i64 0],.slice none 0 0,.int .i64 0],[]⟩ 8 (by kernel_rfl) (by kernel_rfl) (by kernel_rfl) (by kernel_rfl)) ?_
 intro W base args ds gs before hval0 hW hcnd _
 have hval:∀ (j:Nat) t v,Tryz.f3.params[j]?=some t -> args[j]?=some v -> Value.okWide Tryz.prog W .any base t v:=hval0
 have hW':=hW
 obtain ⟨p,q,hA0,hV,rfl,hfz,hnd⟩:=hW
 have hA:DataW.TrodAll enc Tryz.prog W 0 (fun _=>true) true Tryz.f3.params.toList args.toList ds p:=hA0
 rw [Tryz.params3] at hA hval
 obtain ⟨v0,vs0,d0,ds0,p0,q0,hargs,rfl,rfl,h0,r0⟩:=trodAll_cons hA
 obtain ⟨v1,vs1,d1,ds1,p1,q1,rfl,rfl,rfl,h1,r1⟩:=trodAll_cons r0
 obtain ⟨v2,vs2,d2,ds2,p2,q2,rfl,rfl,rfl,h2,r2⟩:=trodAll_cons r1
 obtain ⟨rfl,rfl,rfl⟩:=trodAll_nil r2
 obtain rfl:args=#[v0,v1,v2]:=by cases args;simp_all
 obtain ⟨rfl,rfl⟩:=trodVars_none hV
 have k0t:=h0
 have lt0:∀ x ∈ p0,x.block<W.heap.size:=by obtain ⟨m,hm⟩:=k0t;exact DataW.trod_lt m _ _ _ hm
 obtain ⟨r0a,r0b,r0c,r0d,r0e,r0f,rfl,w0⟩:=openW_rules_arg (hval 0 23 v0 rfl rfl) h0
 have k1t:=h1
 have lt1:∀ x ∈ p1,x.block<W.heap.size:=by obtain ⟨m,hm⟩:=k1t;exact DataW.trod_lt m _ _ _ hm
 obtain ⟨a1,cap1,ms1,rfl,w1⟩:=openW_items (hval 1 24 v1 rfl rfl) h1
 obtain ⟨a2,rfl,rfl,rfl,w2⟩:=open_int Tryz.underlying3 (hval 2 3 v2 rfl rfl) h2
 clear hA0 hval0
 refine (walk r0a r0b r0c r0d r0e r0f a1 cap1 ms1 a2 W w0 w1 w2).mono fun e W' ⟨he,bel⟩ => ?_
 subst he
 exact ⟨_,rfl,_,_,_,[],_,[],hW',trodAll_mk1 (shut_bool Tryz.underlying4 _),(trodAll_cons_mk (Below.trod laidOut (by kernel_rfl) (of_decide_eq_true (by kernel_rfl)) k0t bel lt0) (trodAll_cons_mk (Below.trod laidOut (by kernel_rfl) (of_decide_eq_true (by kernel_rfl)) k1t bel lt1) (trodAll_cons_mk (shut_int Tryz.underlying3 w2) trodAll_mk0))),rfl,bel.frame _,fun h=>by cases h⟩
theorem over:Rows.topSameRow.holds Tryz.pinned (OpenSpec.ofChange Rows.topSameSpec) :=
 OpenClaim.holds_of_wide 3 Tryz.f3 rfl rfl rfl rfl rfl rfl rfl ⟨rfl,rfl,rfl,rfl,rfl⟩ rfl rfl rfl rfl rfl named_ Tryz.func3 closed
  (of_decide_eq_true (by kernel_rfl)) (by unfold Func.isWrapper;first | (rw [if_pos (by decide +kernel)];kernel_rfl) | (rw [if_neg (by decide +kernel)];exact ⟨rfl,rfl⟩))
  (fun os started H enc _=>lifted os started H enc)
theorem proved:Rows.TopSameSaid:=over
#print axioms proved
end Go.Proofs.YtogbpifcmhafkaaGreat.topSame
