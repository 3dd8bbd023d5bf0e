/-
 Part BitsLen of the proof.
-/
import Derived.Test.YtogbpifcmhafkaaGreatProg
import Derived.Lib.Strings
import Derived.Lib.Slices
import Derived.Lib.Small
import Derived.Lib.Walk
import Derived.Lib.BitFns
open Go.Lib renaming bitLen->dQ,bitLen_le8'->uK,len8_of->dO
open Go.Proofs.Tryz renaming prog->nL
namespace Go.Proofs.YtogbpifcmhafkaaGreat
set_option linter.unusedVariables false
set_option linter.unusedSimpArgs false
set_option maxRecDepth 100000
set_option maxHeartbeats 16000000
theorem zJv (x:Int) (w:World) (h0:0≤x) (h1:x≤18446744073709551615) :
    Calls nL 303 #[.int .u64 x] w fun e w'=>e=.returned (.int .i64 (dQ x.toNat))∧w'=w:=by
  go_enter Tryz.func303,Tryz.ntmps303
  go_wp2
  all_goals (go_ret;refine ⟨congrArg Ending.returned (congrArg (Value.int IntKind.i64) ?_),rfl⟩)
  all_goals first
    | (rw [dO (x / 4294967296 / 65536 / 256 % 256) (by omega) (by omega)]
       have e:(x / 4294967296 / 65536 / 256 % 256).toNat=x.toNat / 72057594037927936:=by omega
       have l:=uK (x / 4294967296 / 65536 / 256 % 256) (by omega) (by omega)
       have s:=Lib.bitLen_shift56 x.toNat (by omega) (by omega)
       rw [e] at l ⊢
       omega)
    | (rw [dO (x / 4294967296 / 65536 % 256) (by omega) (by omega)]
       have e:(x / 4294967296 / 65536 % 256).toNat=x.toNat / 281474976710656:=by omega
       have l:=uK (x / 4294967296 / 65536 % 256) (by omega) (by omega)
       have s:=Lib.bitLen_shift48 x.toNat (by omega) (by omega)
       rw [e] at l ⊢
       omega)
    | (rw [dO (x / 4294967296 / 256 % 256) (by omega) (by omega)]
       have e:(x / 4294967296 / 256 % 256).toNat=x.toNat / 1099511627776:=by omega
       have l:=uK (x / 4294967296 / 256 % 256) (by omega) (by omega)
       have s:=Lib.bitLen_shift40 x.toNat (by omega) (by omega)
       rw [e] at l ⊢
       omega)
    | (rw [dO (x / 4294967296 % 256) (by omega) (by omega)]
       have e:(x / 4294967296 % 256).toNat=x.toNat / 4294967296:=by omega
       have l:=uK (x / 4294967296 % 256) (by omega) (by omega)
       have s:=Lib.bitLen_shift32 x.toNat (by omega) (by omega)
       rw [e] at l ⊢
       omega)
    | (rw [dO (x / 65536 / 256 % 256) (by omega) (by omega)]
       have e:(x / 65536 / 256 % 256).toNat=x.toNat / 16777216:=by omega
       have l:=uK (x / 65536 / 256 % 256) (by omega) (by omega)
       have s:=Lib.bitLen_shift24 x.toNat (by omega) (by omega)
       rw [e] at l ⊢
       omega)
    | (rw [dO (x / 65536 % 256) (by omega) (by omega)]
       have e:(x / 65536 % 256).toNat=x.toNat / 65536:=by omega
       have l:=uK (x / 65536 % 256) (by omega) (by omega)
       have s:=Lib.bitLen_shift16 x.toNat (by omega) (by omega)
       rw [e] at l ⊢
       omega)
    | (rw [dO (x / 256 % 256) (by omega) (by omega)]
       have e:(x / 256 % 256).toNat=x.toNat / 256:=by omega
       have l:=uK (x / 256 % 256) (by omega) (by omega)
       have s:=Lib.bitLen_shift8 x.toNat (by omega) (by omega)
       rw [e] at l ⊢
       omega)
    | (rw [dO (x % 256) (by omega) (by omega)]
       have e:(x % 256).toNat=x.toNat:=by omega
       have l:=uK (x % 256) (by omega) (by omega)
       rw [e] at l ⊢
       omega)
theorem zHx (x:Int) (w:World) (h0:0≤x) (h1:x≤18446744073709551615) :
    Calls nL 224 #[.int .u64 x] w fun e w'=>e=.returned (.int .i64 (dQ x.toNat))∧w'=w:=by
  go_enter Tryz.func224,Tryz.ntmps224
  go_wp2_with (go_at_call 303;refine (zJv x _ h0 h1).mono ?_;rintro e w' ⟨rfl,rfl⟩)
  go_ret
  exact ⟨rfl,rfl⟩
end Go.Proofs.YtogbpifcmhafkaaGreat
