/-
 Part PA of the proof.
-/
import Derived.WalkKit
import Derived.Lib.Hide
import Derived.Test.YtogbpifcmhafkaaGreatProg
import Derived.ScopeJumps
import Derived.Deep.WholeRow
import Derived.Deep.AppendLies
import Derived.Maps.AppendAt
import Derived.Lib.SliceRun
import Derived.WalkSpells
import Derived.Deep.Draws
import Derived.WalkSmall
import Derived.Deep.QuietTactic
import Derived.BigQuiet
import Derived.Lib.SmallJoins
import Derived.ProofKit
import Derived.Deep.Slices
import Derived.Deep.Fields
import Derived.ChangeSame
import Derived.Deep.RegionWith
import Derived.Deep.RegionHeld3
import Derived.Deep.DeepCutAuto
import Derived.Deep.DrawnRows
open Array renaming getElem?_eq_none->cG
open BitVec renaming getLsbD_ushiftRight->fO,getLsbD_xor->yV,ofNat->pF,toNat_ushiftRight->tX,xor_assoc->oK,xor_comm->fT
open Bool renaming false_eq_true->uG
open Go renaming Act->lJ,Addr->mB,Program->xJ,TypeId->tC,Value->uB,World->uA,maxLen->fC,run_underlying->qK
open Go.Addr renaming add->sM
open Go.Builtin renaming append_->kK,firstCells->fQ,lenOf->zBT
open Go.Ending renaming returned->zAt
open Go.Exit renaming jump->vP
open Go.Instr renaming slice->yF
open Go.IntKind renaming u32->pH
open Go.Proofs.Tryz renaming underlying33->wR
open Go.Region renaming wanted->eD
open Go.Result renaming andThen->sO
open Go.RowKit.Below renaming refl->cC
open Go.Value renaming int->dD,slice->zE
open Int renaming toNat_natCast->rL
open List renaming eq_nil_of_length_eq_zero->lC,getD_eq_getElem?_getD->pB,getElem?_eq_getElem->rA
open Nat renaming eq_zero_or_pos->dV,le_refl->mA,le_trans->pA,mod_lt->tO,shiftRight_eq_div_pow->pW,zero_add->bD
open Option renaming some->yA
open UInt8 renaming ofNat->wK
namespace Go.Proofs.YtogbpifcmhafkaaGreat
open Go.RowKit Tryz
open Go.Lib(hid)
set_option linter.unusedVariables false
set_option linter.unusedSimpArgs false
set_option maxRecDepth 100000
set_option maxHeartbeats 16000000
instance:Coe Int uB:=⟨.int .i64⟩
instance (a b:Nat):CoeDep (Nat×Nat) (a,b) mB:=⟨⟨a,b,none⟩⟩
instance (a b:Nat):CoeDep (Nat×Nat) (a,b) uB:=⟨.pointer (yA ⟨a,b,none⟩)⟩
def U (x:BitVec 32):Int:=(x.toNat:Int)
theorem U0 (x:BitVec 32):0<=U x:=by unfold U;omega
theorem zKW (n:Nat) (h:n<4294967296):U (pF 32 n)=n:=by
 unfold U;rw [BitVec.toNat_ofNat,Nat.mod_eq_of_lt (by omega)]
def poly:BitVec 32:=0xedb88320#32
def step (x:BitVec 32):BitVec 32:=if x.getLsbD 0 then (x >>> 1) ^^^ poly else x >>> 1
def steps:Nat -> BitVec 32 -> BitVec 32
 | 0,x=>x
 | n+1,x=>step (steps n x)
def nib (n:Nat):BitVec 32:=steps 4 (pF 32 n)
def bstep (x:BitVec 32) (b:UInt8):BitVec 32:=steps 8 (x ^^^ pF 32 b.toNat)
def reg (x:BitVec 32) (bs:List UInt8):BitVec 32:=bs.foldl bstep x
def more (s:BitVec 32) (bs:List UInt8):BitVec 32 := ~~~ (reg (~~~ s) bs)
def sum (bs:List UInt8):BitVec 32:=more 0#32 bs
theorem mV (x y:BitVec 32):bits .xor .u32 (U x) (U y)=U (x ^^^ y):=by
 unfold U;rw [u32_xor_nat _ _ x.isLt y.isLt,BitVec.toNat_xor]
theorem zCs (x y:BitVec 32):bits .and .u32 (U x) (U y)=U (x &&& y):=by
 unfold U;rw [u32_and_nat _ _ x.isLt y.isLt,BitVec.toNat_and]
theorem zRr (x:BitVec 32):U x / (2:Int)=U (x >>> 1):=by
 unfold U;rw [tX,pW];omega
theorem zPW (x:BitVec 32):U x / (16:Int)=U (x >>> 4):=by
 unfold U;rw [tX,pW];omega
theorem zMr (x:BitVec 32):x.getLsbD 0=decide (x.toNat % 2=1):=by
 rw [BitVec.getLsbD,Nat.testBit_zero]
theorem zRq (x:BitVec 32):bits .and .u32 (U x) 1=if x.getLsbD 0 then 1 else 0:=by
 have h:(1:Int)=U 1#32:=rfl
 rw [h,zCs,zMr]
 unfold U
 rw [BitVec.toNat_and,show (1#32).toNat=1 from rfl,Nat.and_one_is_mod]
 by_cases h2:x.toNat % 2=1
 ·simp [h2]
 ·have:x.toNat % 2=0:=by omega
  simp [this]
theorem zNa (x:BitVec 32):bits .xor .u32 (U x / 2) (bits .and .u32 (-bits .and .u32 (U x) 1 % 4294967296) 3988292384)=U (step x):=by
 rw [zRq,zRr]
 have hp:(3988292384:Int)=U poly:=rfl
 rw [hp]
 unfold step
 by_cases h:x.getLsbD 0
 ·have h1:(-1:Int) % 4294967296=U (BitVec.allOnes 32):=by decide
  simp only [h,if_true]
  rw [h1,zCs,mV,BitVec.allOnes_and]
 ·have h1:(-0:Int) % 4294967296=U 0#32:=by decide
  simp only [h]
  simp only [uG,if_false]
  rw [h1,zCs,mV,BitVec.zero_and,BitVec.xor_zero]
def zCL (k:Nat):Array uB:=((List.range 16).map fun j=>dD .u32 (if j<k then U (nib j) else 0)).toArray
def zDX:Array uB:=zCL 16
theorem zGy:#[dD pH 0,dD pH 0,dD pH 0,dD pH 0,dD pH 0,dD pH 0,dD pH 0,dD pH 0,dD pH 0,dD pH 0,dD pH 0,dD pH 0,dD pH 0,dD pH 0,dD pH 0,dD pH 0]=zCL 0:=rfl
theorem zBH (k:Nat):(zCL k).size=16:=by simp [zCL]
theorem zQT (k:Nat) (h:k<16):(zCL k)[k]?=yA (.int .u32 0):=by simp [zCL,h]
theorem zFm (k j:Nat) (h:j<16):(zCL k)[j]?=yA (.int .u32 (if j<k then U (nib j) else 0)):=by simp [zCL,h]
theorem zPF (k : Nat) (h : k < 16) : (zCL k).setIfInBounds k (.int .u32 (U (nib k))) = zCL (k + 1) := by
 apply Array.ext_getElem?
 intro i
 rw [Array.getElem?_setIfInBounds,zBH]
 by_cases hi:i<16
 ·rw [zFm _ _ hi,zFm _ _ hi]
  by_cases e:k=i
  ·subst e;simp [h]
  ·simp only [e,if_false]
   congr 3
   by_cases h1:i<k
   ·simp [h1];omega
   ·have:¬ i<k+1:=by omega
    simp [h1,this]
 ·have h1:(zCL k)[i]?=none:=by rw [cG];rw [zBH];omega
  have h2:(zCL (k+1))[i]?=none:=by rw [cG];rw [zBH];omega
  rw [h1,h2]
  have:k≠i:=by omega
  simp [this]
theorem zGm:zDX.size=16:=zBH 16
theorem zIu (j:Nat) (h:j<16):zDX[j]?=yA (.int .u32 (U (nib j))):=by
 rw [zDX,zFm _ _ h,if_pos h]
theorem zOQ:zDX.all (·.oneCell')=true:=by kernel_rfl
def zQE:Array uB:=#[.int .u32 0,.int .u32 498536548,.int .u32 997073096,.int .u32 651767980,.int .u32 1994146192,.int .u32 1802195444,.int .u32 1303535960,.int .u32 1342533948,.int .u32 3988292384,.int .u32 4027552580,.int .u32 3604390888,.int .u32 3412177804,.int .u32 2607071920,.int .u32 2262029012,.int .u32 2685067896,.int .u32 3183342108]
theorem zIv:zDX=zQE:=by kernel_rfl
theorem zPy (x y:BitVec 32):step (x ^^^ y)=step x ^^^ step y:=by
 unfold step
 rw [yV,BitVec.ushiftRight_xor_distrib]
 cases x.getLsbD 0 <;> cases y.getLsbD 0 <;> simp only [Bool.xor_false,Bool.xor_true,Bool.not_true,Bool.not_false,if_true,if_false,uG]
 ·rw [oK]
 ·rw [oK,oK,fT poly]
 ·have h:∀ a b p:BitVec 32,a ^^^ b=a ^^^ p ^^^ (b ^^^ p):=fun a b p=>by
   rw [oK,<- oK p,fT p b,oK b,BitVec.xor_self,BitVec.xor_zero]
  exact h _ _ _
theorem zNc (n:Nat) (x y:BitVec 32):steps n (x ^^^ y)=steps n x ^^^ steps n y:=by
 induction n with
 | zero=>rfl
 | succ n ih=>rw [steps,ih,zPy];rfl
theorem zNb (m n:Nat) (x:BitVec 32):steps (m+n) x=steps m (steps n x):=by
 induction m with
 | zero=>rw [bD];rfl
 | succ m ih=>rw [Nat.succ_add,steps,ih];rfl
theorem zIW (n:Nat) (x:BitVec 32) (h:∀ i,i<n -> x.getLsbD i=false):steps n x=x >>> n:=by
 induction n with
 | zero=>simp [steps]
 | succ n ih =>
  rw [steps,ih (fun i hi=>h i (by omega))]
  unfold step
  rw [fO,if_neg (by rw [Nat.add_zero,h n (by omega)];decide)]
  rw [BitVec.shiftRight_add]
theorem zIV (x:BitVec 32):steps 4 x=nib (x.toNat % 16) ^^^ (x >>> 4):=by
 have hx:x=pF 32 (x.toNat % 16) ^^^ (x ^^^ pF 32 (x.toNat % 16)):=by
  rw [fT x,<- oK,BitVec.xor_self,BitVec.zero_xor]
 have hl:∀ i,(pF 32 (x.toNat % 16)).getLsbD i=(decide (i<4) && x.getLsbD i):=by
  intro i
  rw [BitVec.getLsbD_ofNat,show (16:Nat)=2 ^ 4 from rfl,Nat.testBit_mod_two_pow,BitVec.getLsbD]
  by_cases h4:i<4
  ·have:i<32:=by omega
   simp [h4,this]
  ·simp [h4]
 have h0:∀ i,i<4 -> (x ^^^ pF 32 (x.toNat % 16)).getLsbD i=false:=by
  intro i hi
  rw [yV,hl];simp [hi]
 have hr:(x ^^^ pF 32 (x.toNat % 16)) >>> 4=x >>> 4:=by
  apply BitVec.eq_of_getLsbD_eq
  intro i _
  rw [fO,fO,yV,hl]
  have:¬ 4+i<4:=by omega
  simp [this]
 have e:steps 4 x=steps 4 (pF 32 (x.toNat % 16) ^^^ (x ^^^ pF 32 (x.toNat % 16))):=by rw [<- hx]
 rw [e,zNc,zIW 4 _ h0,hr];rfl
theorem zEl (x:BitVec 32):bits .and .u32 (U x) 15=((x.toNat % 16:Nat):Int):=by
 unfold U
 rw [show (15:Int)=((15:Nat):Int) from rfl,u32_and_nat _ _ x.isLt (by omega)]
 rw [show (15:Nat)=2 ^ 4 - 1 from rfl,Nat.and_two_pow_sub_one_eq_mod]
theorem zGa (x:BitVec 32):bits .xor .u32 (U (nib (x.toNat % 16))) (U x / (16:Int))=U (steps 4 x):=by
 rw [zPW,mV,zIV]
theorem zLF (x:BitVec 32) (b:UInt8):bits .xor .u32 (U x) (b.toNat:Int)=U (x ^^^ pF 32 b.toNat):=by
 have h:((b.toNat:Nat):Int)=U (pF 32 b.toNat):=by rw [zKW _ (by have:=b.toNat_lt;omega)]
 rw [h,mV]
theorem zOR (x:BitVec 32):bits .xor .u32 4294967295 (U x)=U (~~~ x):=by
 have h:(4294967295:Int)=U (BitVec.allOnes 32):=by decide
 rw [h,mV,fT,BitVec.xor_allOnes]
theorem zPg (x:BitVec 32) (bs:List UInt8) (b:UInt8):reg x (bs ++ [b])=steps 4 (steps 4 (reg x bs ^^^ pF 32 b.toNat)):=by
 rw [reg,List.foldl_append,<- zNb];rfl
theorem zFn (bs:List UInt8) (k:Nat) (h:k<bs.length):bs.take (k+1)=bs.take k ++ [bs.getD k 0]:=by
 rw [List.take_succ_eq_append_getElem h,pB,rA h];rfl
theorem zFv (x:BitVec 32) (bs:List UInt8) (k:Nat) (h:k<bs.length):reg x (bs.take (k+1))=steps 4 (steps 4 (reg x (bs.take k) ^^^ pF 32 (bs.getD k 0).toNat)):=by
 rw [zFn bs k h,zPg]
theorem zGo (x:BitVec 32):bits .xor .u32 IntKind.u32.max (U x)=U (~~~ x):=zOR x
theorem zIO (r:BitVec 32) (b:UInt8):∃ (B n1 n2:Nat) (X1 X2 N1 N2 X3:Int),B=b.toNat/\B<256/\bits .xor .u32 (U r) (B:Int)=X1/\0<=X1/\bits .and .u32 X1 15=(n1:Int)/\n1<16/\zDX[n1]?=yA (.int .u32 N1) /\
  bits .xor .u32 N1 (X1 / (16:Int))=X2/\0<=X2/\bits .and .u32 X2 15=(n2:Int)/\n2<16/\zDX[n2]?=yA (.int .u32 N2)/\bits .xor .u32 N2 (X2 / (16:Int))=X3/\X3=U (steps 4 (steps 4 (r ^^^ pF 32 b.toNat))) :=
 ⟨b.toNat,_,_,_,_,_,_,_,rfl,b.toNat_lt,zLF r b,U0 _,zEl _,tO _ (by omega),zIu _ (tO _ (by omega)),zGa _,U0 _,zEl _,tO _ (by omega),zIu _ (tO _ (by omega)),zGa _,rfl⟩
def zIj (n:BitVec 32) (k:Nat):UInt8:=wK (n.toNat / 2 ^ (8 * k) % 256)
def le (n:BitVec 32):List UInt8:=[zIj n 0,zIj n 1,zIj n 2,zIj n 3]
def sealed (bs:List UInt8):List UInt8:=bs ++ le (sum bs)
theorem zFw (bs:List UInt8):(sealed bs).length=bs.length+4:=by simp [sealed,le]
theorem zHd (n:BitVec 32) (k:Nat) (h:k<4):(le n).take (k+1)=(le n).take k ++ [zIj n k]:=by
 have:k=0\/k=1\/k=2\/k=3:=by omega
 rcases this with rfl | rfl | rfl | rfl <;> rfl
theorem zAm {P:xJ} {c R:Code} {Q:Exit -> lJ -> uA -> Prop} {a:lJ} {w:uA} (l:Nat) (J:lJ -> uA -> Prop) (μ:lJ -> uA -> Nat) (hf:findLabel c l=yA (.seq .skip R))
  (pass:∀ a w,J a w -> R.wp P (vP l (fun a' w'=>J a' w'/\μ a' w'<μ a w) Q) a w)
  (first:(∀ a w,J a w -> R.wp P (vP l J Q) a w) -> c.wp P (vP l J Q) a w):(Code.scope c).wp P Q a w:=by
 have hp:∀ a w,J a w -> R.wp P (vP l J Q) a w:=fun a w h=>Code.wp_mono (fun e a' w' q=>by
  cases e with
  | goto l'=>exact ⟨q.1,q.2.1⟩
  | normal=>exact q
  | exit id=>exact q
  | ret=>exact q
  | panic ch=>exact q
  | outgrown=>exact q) (pass a w h)
 exact wp_scope_jumps l J μ hf (first hp) fun a w h=>wp_seq (wp_skip (pass a w h))
theorem bcell {B:Nat} {W w1:uA} (hb:Below B W w1):(∀ b o,b<B -> w1.cell? ⟨b,o,none⟩=W.cell? ⟨b,o,none⟩)/\(∀ b o,b<B -> w1.frozen? ⟨b,o,none⟩=W.frozen? ⟨b,o,none⟩) :=
 ⟨fun b o h=>hb.cell (p:=⟨b,o,none⟩) h,fun b o h=>hb.frozen (p:=⟨b,o,none⟩) h⟩
theorem zQK {k:IntKind} {a b:Int} (h:a=b):zAt (.int k a)=.returned (.int k b):=by rw [h]
theorem bC {a b:Bool} (h:a=b):zAt (.bool a)=.returned (.bool b):=by rw [h]
def dC (w:uA) (A:Option mB) (xs:List uB):Prop:=xs=[]\/∃ b off,A=yA ⟨b,off,none⟩/\b<w.heap.size/\∀ i u,xs[i]?=yA u -> w.cell? ⟨b,off+i,none⟩=yA u
section
variable {w w':uA} {A:Option mB} {xs:List uB}
theorem dC.nil:dC w A []:=.inl rfl
theorem dC.at {k:Nat} {u:uB} (h:dC w A xs) (hk:xs[k]?=yA u):∃ b off,A=yA ⟨b,off,none⟩/\b<w.heap.size/\w.cell? ⟨b,off+k,none⟩=yA u:=by
 rcases h with rfl | ⟨b,off,ha,hlt,hc⟩
 ·simp at hk
 ·exact ⟨b,off,ha,hlt,hc k u hk⟩
theorem dC.keep (h:dC w A xs) (hs:w.heap.size<=w'.heap.size) (hk:∀ b o,b<w.heap.size -> w'.cell? ⟨b,o,none⟩=w.cell? ⟨b,o,none⟩):dC w' A xs:=by
 rcases h with h | ⟨b,off,ha,hlt,hc⟩
 ·exact .inl h
 ·exact .inr ⟨b,off,ha,Nat.lt_of_lt_of_le hlt hs,fun i u hi=>by rw [hk b _ hlt];exact hc i u hi⟩
theorem dC.below (h:dC w A xs) (hb:Below w.heap.size w w'):dC w' A xs:=h.keep hb.size (bcell hb).1
theorem dC.alloc (h:dC w A xs) (o:Obj):dC (w.alloc o) A xs:=h.below ((cC _ _).alloc (mA _) o)
theorem dC.drew (h:dC w A xs):dC w.drew A xs:=h
theorem dC.drewN (h:dC w A xs) (n:Nat):dC (w.drewN n) A xs:=h
theorem dC.new (w:uA) (cs:Array uB) (t:tC):dC (w.alloc (.cells cs t)) (yA ⟨w.heap.size,0,none⟩) cs.toList:=by
 refine .inr ⟨w.heap.size,0,rfl,by simp,fun i u hi => ?_⟩
 rw [bD,cell_of_row _ _ _ cs t (0,0) (heap_alloc_new w _)]
 simpa using hi
theorem dC.take (h:dC w A xs) (k:Nat):dC w A (xs.take k):=by
 rcases h with rfl | ⟨b,off,ha,hlt,hc⟩
 ·exact .inl (by simp)
 ·refine .inr ⟨b,off,ha,hlt,fun i u hi=>hc i u ?_⟩
  rw [List.getElem?_take] at hi
  by_cases h:i<k
  ·rwa [if_pos h] at hi
  ·rw [if_neg h] at hi;cases hi
theorem dC.drop {b off:Nat} (h:dC w (yA ⟨b,off,none⟩) xs) (k:Nat):dC w (yA ⟨b,off+k,none⟩) (xs.drop k):=by
 rcases h with rfl | ⟨b',off',ha,hlt,hc⟩
 ·exact .inl (by simp)
 ·cases ha
  exact .inr ⟨b,off+k,rfl,hlt,fun i u hi=>by
   rw [List.getElem?_drop] at hi
   rw [Nat.add_assoc];exact hc _ u hi⟩
theorem dC.cells {b off:Nat} (h:dC w (yA ⟨b,off,none⟩) xs):∀ j u,xs[j]?=yA u -> w.cell? ((⟨b,off,none⟩:mB).add j)=yA u:=by
 rcases h with rfl | ⟨b',off',ha,hlt,hc⟩
 ·intro j u hj;simp at hj
 ·cases ha
  intro j u hj
  have hadd:(⟨b,off,none⟩:mB).add j=⟨b,off+j,none⟩:=by unfold sM;split <;> simp_all
  rw [hadd];exact hc j u hj
end
theorem zEV {w:uA} {base:Nat} {e:tC} {size:Nat} {v:uB} {n:Nat} {xs:List uB} (h:w.ownsRow base e size v n xs):∃ a cap,v=.slice a n cap/\n<=cap:=by
 rcases h.2 with ⟨rfl,rfl⟩ | ⟨g,cap,cur,rfl,_,_,hc,_⟩
 ·exact ⟨none,0,rfl,mA _⟩
 ·exact ⟨_,_,rfl,hc⟩
theorem dC.of_own {w:uA} {base:Nat} {e:tC} {size:Nat} {A:Option mB} {n cap:Nat} {xs:List uB} (h:w.ownsRow base e size (.slice A n cap) n xs):dC w A xs:=by
 by_cases hx:xs=[]
 ·exact .inl hx
 ·have hn:0<n:=by
   rcases dV n with h0 | h0
   ·exfalso;apply hx;apply lC;rw [h.1,h0,Nat.zero_mul]
   ·exact h0
  obtain ⟨g,c,hv,_,hlt⟩:=h.form hn
  have hA:A=yA ⟨g,0,none⟩:=by injection hv
  subst hA
  refine .inr ⟨g,0,rfl,hlt,fun i u hi => ?_⟩
  have:=h.cells (g:=g) rfl i u hi
  have hadd:(⟨g,0,none⟩:mB).add i=⟨g,0+i,none⟩:=by unfold sM;split <;> simp_all
  rwa [hadd] at this
theorem jB {w w':uA} {base:Nat} {e:tC} {size:Nat} {v:uB} {n:Nat} {xs:List uB} (h:w.ownsRow base e size v n xs) (hb:Below w.heap.size w w'):w'.ownsRow base e size v n xs:=by
 refine ⟨h.1,?_⟩
 rcases h.2 with h2 | ⟨g,cap,cur,hv,hg,hh,r⟩
 ·exact .inl h2
 ·refine .inr ⟨g,cap,cur,hv,hg,?_,r⟩
  rw [hb.block g (lt_of_block' hh)];exact hh
where lt_of_block' {w:uA} {b:Nat} {o:Obj} (h:w.heap[b]?=yA o):b<w.heap.size:=by
        rcases Nat.lt_or_ge b w.heap.size with h' | h'
        ·exact h'
        ·simp [cG h'] at h
theorem oC {w:uA} {base base':Nat} {e:tC} {size:Nat} {v:uB} {n:Nat} {xs:List uB} (h:w.ownsRow base e size v n xs) (hb:base'<=base):w.ownsRow base' e size v n xs:=by
 refine ⟨h.1,?_⟩
 rcases h.2 with h2 | ⟨g,cap,cur,hv,hg,r⟩
 ·exact .inl h2
 ·exact .inr ⟨g,cap,cur,hv,pA hb hg,r⟩
structure oQ (P:xJ) (t e:tC) (z:uB) (size bytes:Nat):Prop where
 under:P.underlying t=yA (.slice e)
 info:(P.info? e).map (fun i=>(i.zero,i.size,i.bytes))=yA (yA z,size,bytes)
 cells:z.cells.size=size
 pos:0<size
theorem zFe {P : xJ} (w : uA) {t e : tC} {z : uB} {size bytes : Nat} (E : oQ P t e z size bytes) (ty : tC) (base : Nat)
  (v:uB) (n:Nat) (xs:List uB) (hown:w.ownsRow base e size v n xs) (A:Option mB) (m c:Nat) (news:List uB) (hl:news.length=m * size) (hr:dC w A news) (h1:∀ u ∈ news,u.oneCell'=true)
  (h63:n+m<=fC) (hbytes:(n+m) * bytes<=140737488355328) (hbase:base<=w.heap.size) (hnz:A=none -> m=0) :
  ∃ a' c' w', (kK #[t, t] ty #[v, .slice A m c]).run P w = .ok (.slice a' (n + m) c') w' /\ w'.ownsRow base e size (.slice a' (n + m) c') (n + m) (xs ++ news) /\ w.grownBy w' v.ownBlock /\
   ((zE a' (n+m) c').ownBlock=v.ownBlock\/(zE a' (n+m) c').ownBlock=yA w.heap.size):=by
 obtain ⟨i,hi,hz,hsize,hby⟩:=info_parts E.info
 rcases A with _ | ad
 ·obtain rfl:=hnz rfl
  have hn:news=[]:=lC (by simpa using hl)
  subst hn
  obtain ⟨a',c',hv,hc⟩:=zEV hown
  refine ⟨a',c',w,?_,by simpa [<- hv] using hown,⟨rfl,rfl,rfl,mA _,fun _ _ _=>rfl⟩,.inl (by rw [hv];rfl)⟩
  rcases hown.2 with ⟨rfl,rfl⟩ | ⟨g,cap,cur,rfl,_,_,hnc,_⟩
  ·cases hv
   simp [kK,qK E.under,sizeOf,typeInfo,hi,zBT,fQ]
  ·cases hv
   simp [kK,qK E.under,sizeOf,typeInfo,hi,zBT,fQ,hnc,storeCells]
 ·have hcells:∀ j u,news[j]?=yA u -> w.cell? (ad.add j)=yA u:=by
   rcases hr with rfl | ⟨b,off,ha,hlt,hc⟩
   ·intro j u hj;simp at hj
   ·cases ha
    exact dC.cells (.inr ⟨b,off,rfl,hlt,hc⟩)
  obtain ⟨v',w',hrun,h2,h3,_,h5⟩:=run_append_own_at (P:=P) w base t ty e i z size bytes E.under hi hz hsize hby E.cells E.pos v n xs hown ad m c news hl hcells h1 h63 hbytes hbase
  obtain ⟨a',c',rfl,_⟩:=zEV h2
  exact ⟨a',c',w',hrun,h2,h3,h5⟩
section
variable {P:xJ} {w:uA} {t e:tC} {z:uB} {size bytes:Nat}
theorem tG {o:Oper} {a:lJ} {K:lJ -> uA -> Prop} {Q:Exit -> lJ -> uA -> Prop} (s x:Operand)
  (ho:o.op=.call { callee:=.builtin .append,args:=#[s,x],argTypes:=#[t,t] }) (E:oQ P t e z size bytes) (base:Nat)
  (v:uB) (n:Nat) (xs:List uB) (hs:a.eval s=v) (hown:w.ownsRow base e size v n xs) (A:Option mB) (m c:Nat) (news:List uB) (hx:a.eval x=.slice A m c) (hl:news.length=m * size) (hr:dC w A news) (h1:∀ u ∈ news,u.oneCell'=true)
  (h63:n+m<=fC) (hbytes:(n+m) * bytes<=140737488355328) (hbase:base<=w.heap.size) (hnz:A=none -> m=0)
  (h:∀ a' c' w',w'.ownsRow base e size (.slice a' (n+m) c') (n+m) (xs ++ news) -> w.grownBy w' v.ownBlock -> ((zE a' (n+m) c').ownBlock=v.ownBlock\/(zE a' (n+m) c').ownBlock=yA w.heap.size) -> K (a.put o.dst (.slice a' (n+m) c')) w'):o.wp P a w K Q:=by
 obtain ⟨a',c',w',hrun,h2,h3,h4⟩:=zFe w E o.type base v n xs hown A m c news hl hr h1 h63 hbytes hbase hnz
 unfold Oper.wp execOp
 simp only [ho,resolve,invoke,builtin,Sem.run_bind,Sem.run_pure,Result.andThen_ok,List.map_toArray,List.map_cons,List.map_nil,hs,hx,hrun]
 exact h a' c' w' h2 h3 h4
theorem yC {ops:Array Oper} {rest:List Oper} {o:Oper} {a:lJ} {Q:Exit -> lJ -> uA -> Prop} (hgd:o.guard=none) (s x:Operand)
  (ho:o.op=.call { callee:=.builtin .append,args:=#[s,x],argTypes:=#[t,t] }) (E:oQ P t e z size bytes) (base:Nat)
  (v:uB) (n:Nat) (xs:List uB) (hs:a.eval s=v) (hown:w.ownsRow base e size v n xs) (A:Option mB) (m c:Nat) (news:List uB) (hx:a.eval x=.slice A m c) (hl:news.length=m * size) (hr:dC w A news) (h1:∀ u ∈ news,u.oneCell'=true)
  (h63:n+m<=fC) (hbytes:(n+m) * bytes<=140737488355328) (hbase:base<=w.heap.size) (hnz:A=none -> m=0)
  (h:∀ a' c' w',w'.ownsRow base e size (.slice a' (n+m) c') (n+m) (xs ++ news) -> w.grownBy w' v.ownBlock -> ((zE a' (n+m) c').ownBlock=v.ownBlock\/(zE a' (n+m) c').ownBlock=yA w.heap.size) -> wpList P ops Q rest (a.put o.dst (.slice a' (n+m) c')) w'):wpList P ops Q (o :: rest) a w :=
 wpList_plain hgd fun _ hK=>tG s x ho E base v n xs hs hown A m c news hx hl hr h1 h63 hbytes hbase hnz fun a' c' w' h2 h3 h4=>hK _ _ (h a' c' w' h2 h3 h4)
end
def mD (e:tC) (size n:Nat) (xs:List uB) (w:uA) (en:Ending) (w':uA):Prop :=
 ∃ a cap,en=.returned (.slice a n cap)/\w'.ownsRow w.heap.size e size (.slice a n cap) n xs/\Below w.heap.size w w'
theorem Below.appended {B:Nat} {w0 w w':uA} (h:Below B w0 w) {base:Nat} {e:tC} {size n:Nat} {v:uB} {xs:List uB} (hown:w.ownsRow base e size v n xs) (hg:w.grownBy w' v.ownBlock) (hB:B<=w.heap.size) (hb:B<=base):Below B w0 w' :=
 h.grown hg hB fun k hk=>pA hb (hown.lt k hk).1
def pI (b:UInt8):uB:=.int .u8 (b.toNat:Int)
theorem zDp (bs:List UInt8):∀ u ∈ bs.map pI,u.oneCell'=true:=by
 intro u hu
 obtain ⟨b,_,rfl⟩:=List.mem_map.1 hu
 rfl
def bJ (w:uA) (a:Option mB) (bs:List UInt8):Prop:=dC w a (bs.map pI)
theorem bJ.at {w:uA} {a:Option mB} {bs:List UInt8} (h:bJ w a bs) {k:Nat} (hk:k<bs.length):∃ b off,a=yA ⟨b,off,none⟩/\b<w.heap.size/\w.cell? ⟨b,off+k,none⟩=yA (.int .u8 ((bs.getD k 0).toNat:Int)):=by
 refine dC.at h (u:=.int .u8 ((bs.getD k 0).toNat:Int)) ?_
 rw [List.getElem?_map,rA hk,pB,rA hk]
 rfl
theorem bJ.below {w w1:uA} {a:Option mB} {bs:List UInt8} (h:bJ w a bs) (hb:Below w.heap.size w w1):bJ w1 a bs:=dC.below h hb
theorem bt {w W W':uA} (h1:Below w.heap.size w W) (h2:Below W.heap.size W W'):Below w.heap.size w W':=h1.trans (h2.mono h1.size)
theorem zBa:oQ prog 33 5 (.int .u8 0) 1 1:=⟨wR,by kernel_rfl,rfl,by omega⟩
def heldN (ns:List Int) (i:Int):Nat:=ns.countP fun m=>decide (i<=m)
def majN (n:Nat):Nat:=n / 2+1
abbrev wN (ns:List Int):List Int:=ns.mergeSort fun x y=>decide (x<=y)
theorem sR (ns:List Int):(wN ns).length=ns.length:=List.length_mergeSort ns
def enough (ns:List Int) (m:Int):Prop:=majN ns.length<=heldN ns m
abbrev Cm:=Int × Int × Int × Int × Int × Int
abbrev En:=Int × Cm
def enV (e:En):List uB:=[.int .i64 e.1,.int .i64 e.2.1,.int .i64 e.2.2.1,.int .i64 e.2.2.2.1,.int .i64 e.2.2.2.2.1,.int .i64 e.2.2.2.2.2.1,.int .i64 e.2.2.2.2.2.2]
def zHX (es:List En):List uB:=es.flatMap enV
def endT (es:List En) (f:Int):Int:=match es.getLast? with
 | none=>f
 | some e=>e.1
section
open Go.ChangeShapes Go.WideShapes Go.Deep Go.Joins
section
variable {H:Type} {enc:tC × uB -> H} {P:xJ} {w:uA} {base:Nat}
theorem zDL {α : Type} {R : Nat -> α -> Prop} : ∀ (n : Nat), (∀ i, i < n -> ∃ x, R i x) -> ∃ l : List α, l.length = n /\ ∀ i x, l[i]? = yA x -> R i x
 | 0,_=>⟨[],rfl,fun i x h=>by simp at h⟩
 | n + 1, h => by
  obtain ⟨l,hl,hr⟩:=zDL n fun i hi=>h i (by omega)
  obtain ⟨x,hx⟩:=h n (by omega)
  refine ⟨l ++ [x],by simp [hl],fun i y hy => ?_⟩
  rw [List.getElem?_append] at hy
  by_cases h1:i<l.length
  ·rw [if_pos h1] at hy;exact hr i y hy
  ·rw [if_neg h1] at hy
   have:i - l.length=0:=by
    rcases dV (i - l.length) with h | h
    ·exact h
    ·rw [List.getElem?_eq_none (by simp;omega)] at hy;cases hy
   rw [this] at hy
   simp at hy
   subst hy
   rw [show i=n by omega];exact hx
end
end
def b8 (n:Nat):UInt8:=wK n
theorem zOW {w:uA} {base:Nat} {e:tC} {size:Nat} (o:Obj) (cs:Array uB) (n:Nat) (hb:base<=w.heap.size+1) (hm:n<=fC) (hs:cs.size=n * size) :
  ((w.alloc o).alloc (.cells cs e)).ownsRow base e size (.slice (yA ⟨w.heap.size+1,0,none⟩) n n) n cs.toList:=by
 have h:=World.ownsRow_lit (base:=base) (e:=e) (size:=size) (w.alloc o) cs n (by simpa using hb) hm hs
 have e1:(w.alloc o).heap.size=w.heap.size+1:=by simp
 rwa [e1] at h
theorem oS {w w1:uA} {o:Obj} (hb:Below (w.alloc o).heap.size (w.alloc o) w1):Below w.heap.size w w1:=((cC _ _).alloc (mA _) o).trans (hb.mono (by simp))
theorem own_lt {w:uA} {base:Nat} {e:tC} {size:Nat} {v:uB} {n:Nat} {xs:List uB} (h:w.ownsRow base e size v n xs):∀ g,v.ownBlock=yA g -> g<w.heap.size:=fun g hg=>(h.lt g hg).2
section
variable {P:xJ} {w:uA} {t e:tC} {z:uB} {size bytes:Nat}
theorem lN {ops:Array Oper} {o:Oper} {a:lJ} {K:lJ -> uA -> Prop} {Q:Exit -> lJ -> uA -> Prop} {E0:Prop} (hgd:o.guard=none) (s x:Operand)
  (ho:o.op=.call { callee:=.builtin .append,args:=#[s,x],argTypes:=#[t,t] }) (E:oQ P t e z size bytes) (base:Nat)
  (v:uB) (n:Nat) (xs:List uB) (hs:a.eval s=v) (hown:w.ownsRow base e size v n xs) (A:Option mB) (m c:Nat) (news:List uB) (hx:a.eval x=.slice A m c) (hl:news.length=m * size) (hr:dC w A news) (h1:∀ u ∈ news,u.oneCell'=true)
  (h63:n+m<=fC) (hbytes:(n+m) * bytes<=140737488355328) (hbase:base<=w.heap.size) (hnz:A=none -> m=0)
  (h:∀ a' c' w',w'.ownsRow base e size (.slice a' (n+m) c') (n+m) (xs ++ news) -> w.grownBy w' v.ownBlock -> ((zE a' (n+m) c').ownBlock=v.ownBlock\/(zE a' (n+m) c').ownBlock=yA w.heap.size) -> K (a.put o.dst (.slice a' (n+m) c')) w') :
  if eD o (yielded ops a.tmps)=true then Oper.wp P o a w K Q else E0:=by
 have hw:eD o (yielded ops a.tmps)=true:=by simp [eD,hgd]
 rw [if_pos hw]
 exact tG s x ho E base v n xs hs hown A m c news hx hl hr h1 h63 hbytes hbase hnz h
end
section
variable {P:xJ} {t e:tC} {z:uB} {size bytes:Nat}
theorem oQ.sizeOf (E:oQ P t e z size bytes) (w:uA):(Go.sizeOf e).run P w=.ok size w:=by
 obtain ⟨i,hi,_,hs,_⟩:=info_parts E.info
 simp [Go.sizeOf,typeInfo,hi,hs]
theorem oQ.self (E:oQ P t e z size bytes):P.elem t=e:=by
 have:=E.under
 unfold Program.elem
 rw [this]
theorem oQ.under' (E:oQ P t e z size bytes):P.underlying t=yA (.slice (P.elem t)):=by rw [E.self];exact E.under
theorem zCa (a:Option mB) (s:Nat):a.map (·.add (0 * s))=a:=by
 rcases a with _ | ⟨b,off,sp⟩
 ·rfl
 ·simp [sM]
theorem mP (E:oQ P t e z size bytes) (a:Option mB) (len cap h:Nat) (hh:h<=cap) (w:uA) :
  (yF t (.slice a len cap) none (yA (.int .i64 (h:Int))) none).run P w=.ok (.slice a h cap) w:=by
 rw [run_slice_h (P:=P) w t a len cap E.under' .i64 (h:Int) (by omega) (by omega),E.self,E.sizeOf]
 simp only [sO,sliced,zCa,rL,Nat.sub_zero,ite_self]
def cutS (a:Option mB) (cap l size:Nat):Option mB:=if cap=l then a else a.map (·.add (l * size))
theorem eK (E:oQ P t e z size bytes) (a:Option mB) (len cap l:Nat) (hl:l<=len) (w:uA) :
  (yF t (.slice a len cap) (yA (.int .i64 (l:Int))) none none).run P w=.ok (.slice (cutS a cap l size) (len - l) (cap - l)) w:=by
 rw [run_slice_l (P:=P) w t a len cap E.under' .i64 (l:Int) (by omega) (by omega),E.self,E.sizeOf]
 simp only [sO,sliced,rL,cutS]
end
theorem dC.cutS {w:uA} {a:Option mB} {xs:List uB} (h:dC w a xs) (cap l size:Nat) (hc:xs.length<=cap * size):dC w (cutS a cap l size) (xs.drop (l * size)):=by
 unfold Proofs.YtogbpifcmhafkaaGreat.cutS
 by_cases e:cap=l
 ·rw [if_pos e,List.drop_of_length_le (by rw [<- e];exact hc)];exact .nil
 ·rw [if_neg e]
  rcases h with rfl | ⟨b,off,rfl,hlt,hx⟩
  ·rw [List.drop_nil];exact .nil
  ·have hadd:(⟨b,off,none⟩:mB).add (l * size)=⟨b,off+l * size,none⟩:=by unfold sM;split <;> simp_all
   rw [Option.map_some,hadd]
   exact dC.drop (.inr ⟨b,off,rfl,hlt,hx⟩) (l * size)
theorem zLO {a:Option mB} {cap l size n:Nat} (h:a=none -> n=0):cutS a cap l size=none -> n - l=0:=by
 unfold cutS
 intro e
 have:a=none:=by
  by_cases hc:cap=l
  ·rwa [if_pos hc] at e
  ·rw [if_neg hc] at e;cases a with
   | none=>rfl
   | some x=>cases e
 rw [h this,Nat.zero_sub]
def zPA (bs:List UInt8):ByteArray:=⟨bs.toArray⟩
theorem zIX (bs:List UInt8):strOfNums (bs.map fun b=>(b.toNat:Int))=zPA bs:=by
 unfold zPA strOfNums
 simp [Function.comp_def]
theorem zEW {w:uA} {base:Nat} {e:tC} {size:Nat} {A:Option mB} {n cap:Nat} {xs:List uB} (h:w.ownsRow base e size (.slice A n cap) n xs):A=none -> n=0:=by
 rintro rfl
 rcases h.2 with ⟨_,h0⟩ | ⟨g,c,cur,hv,_⟩
 ·exact h0
 ·cases hv
theorem dX {A : Option mB} {bs : List UInt8} (cap : Nat) (w : uA) (h : bJ w A bs) (hz : A = none -> bs.length = 0) :
  (convert 33 9 (.slice A bs.length cap)).run prog w=.ok (.string (zPA bs)) w:=by
 rcases A with _ | ad
 ·obtain rfl:=lC (hz rfl)
  exact run_convert_bytes_nil (P:=prog) w 33 5 wR underlying5 0 cap 9 underlying9
 ·by_cases h0:bs=[]
  ·subst h0
   rw [run_convert_bytes_string (P:=prog) w 33 9 5 _ _ cap wR underlying5 underlying9]
   exact run_bytesToString (P:=prog) w ad 0 cap [] (by simp [loadCells,loadCellsFrom])
  ·obtain ⟨b,off,he,_,hc⟩:=h.resolve_left (by simpa using h0)
   cases he
   have:=run_convert_bytes_arg (P:=prog) w 33 5 wR underlying5 b off bs.length cap (bs.map fun b=>(b.toNat:Int)) (by simp) (fun i hi=>by
    rw [hc i (pI bs[i]) (by simp [hi])]
    simp [pI,hi]) 9 underlying9
   rwa [zIX] at this
end Go.Proofs.YtogbpifcmhafkaaGreat
