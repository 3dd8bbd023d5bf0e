/-
 Part PG of the proof.
-/
import Derived.Test.YtogbpifcmhafkaaGreatPE
import Derived.Handy
import Derived.Laws.EntriesVeiled
import Derived.Laws.IdiomCopy
import Derived.Lib.Overlaps
import Derived.Lib.AppendZeros
import Derived.Laws.Externs
import Derived.Shelf.Spec.SlicesInsert
import Derived.Shelf.Spec.SlicesInsertGrow
open Go renaming Addr->mB,Calls->iA,TypeId->tC,Value->uB,World->uA,maxLen->fC
open Go.Builtin renaming copy_->iN
open Go.Lib renaming run_eql_slice_nil->mE,hid->fA
open Go.RowKit renaming Hid->jC
open Go.Value renaming slice->zE
open Go.World renaming ownsRow_made->sD,ownsRow_nil->nB
open List renaming drop_eq_getElem_cons->pD,drop_eq_nil_of_le->fF,eq_nil_of_length_eq_zero->lC,getD_eq_getElem?_getD->pB,getElem?_eq_getElem->rA,mem_cons->pE,nil_append->wE
open Nat renaming add_zero->yJ,le_refl->mA,succ_mul->cH,zero_add->bD,zero_le->vC
open Option renaming getD_some->yD,some->yA
namespace Go.Proofs.YtogbpifcmhafkaaGreat
open Go.RowKit Tryz
open Go.Lib(hid)
set_option linter.unusedVariables false
set_option linter.unusedSimpArgs false
set_option maxRecDepth 100000
set_option maxHeartbeats 16000000
theorem zEd (a:Option mB) (cap n:Nat) (xs:List uB) (w:uA) (hr:dC w a xs) (hn0:a=none -> n=0) (hL:xs.length=n * 4) (h1:∀ u ∈ xs,u.oneCell'=true) (hs:n<=1000000) :
  iA prog 190 #[.slice a n cap] w (mD 207 4 n xs w):=by
 have q:=fun (w:uA) (a:Option mB) (n c n' c':Nat)=>mE w 47 207 a n c n' c' underlying47
 cases a with
 | none =>
  have h0:=hn0 rfl
  subst h0
  obtain rfl:=lC (by simpa using hL)
  clear hr hL
  go_enter func190,ntmps190
  go_wp2
  go_ret
  exact ⟨none,0,rfl,nB _ _ _ _,xC _⟩
 | some p =>
  have HR:=fA hr
  have HL:=fA hL
  clear hr hL
  go_enter func190,ntmps190
  go_wp2_with (at_builtin;refine yC rfl (.tmp 5) (.tmp 6) rfl zCy w.heap.size _ 0 [] (by rfl) (sD w #[] 0 (mA _) (vC _) (by simp)) (yA p) n cap xs (by rfl) HL.out (HR.out.alloc _) h1 (by unfold fC;omega) (by omega) (by simp) (fun h=>by cases h) ?_;intro a1 c1 w1 hown hg hat)
  simp only [bD,wE] at hown
  go_ret
  exact ⟨a1,c1,rfl,hown,Below.appended (wA w _) (sD (size:=4) w #[] 0 (mA _) (vC _) (by simp)) hg (by simp) (mA _)⟩
theorem zGT (a:Option mB) (cap n:Nat) (xs:List uB) (w:uA) (hr:dC w a xs) (hn0:a=none -> n=0) (hL:xs.length=n * 4) (h1:∀ u ∈ xs,u.oneCell'=true) (hs:n<=1000000) :
  iA prog 143 #[.slice a n cap] w (mD 65 4 n xs w):=by
 have q:=fun (w:uA) (a:Option mB) (n c n' c':Nat)=>mE w 48 65 a n c n' c' underlying48
 cases a with
 | none =>
  have h0:=hn0 rfl
  subst h0
  obtain rfl:=lC (by simpa using hL)
  clear hr hL
  go_enter func143,ntmps143
  go_wp2
  go_ret
  exact ⟨none,0,rfl,nB _ _ _ _,xC _⟩
 | some p =>
  have HR:=fA hr
  have HL:=fA hL
  clear hr hL
  go_enter func143,ntmps143
  go_wp2_with (at_builtin;refine yC rfl (.tmp 5) (.tmp 6) rfl zGX w.heap.size _ 0 [] (by rfl) (sD w #[] 0 (mA _) (vC _) (by simp)) (yA p) n cap xs (by rfl) HL.out (HR.out.alloc _) h1 (by unfold fC;omega) (by omega) (by simp) (fun h=>by cases h) ?_;intro a1 c1 w1 hown hg hat)
  simp only [bD,wE] at hown
  go_ret
  exact ⟨a1,c1,rfl,hown,Below.appended (wA w _) (sD (size:=4) w #[] 0 (mA _) (vC _) (by simp)) hg (by simp) (mA _)⟩
theorem zLe (a:Option mB) (cap n:Nat) (xs:List uB) (w:uA) (hr:dC w a xs) (hn0:a=none -> n=0) (hL:xs.length=n * 2) (h1:∀ u ∈ xs,u.oneCell'=true) (hs:n<=1000000) :
  iA prog 102 #[.slice a n cap] w (mD 173 2 n xs w):=by
 have q:=fun (w:uA) (a:Option mB) (n c n' c':Nat)=>mE w 52 173 a n c n' c' underlying52
 cases a with
 | none =>
  have h0:=hn0 rfl
  subst h0
  obtain rfl:=lC (by simpa using hL)
  clear hr hL
  go_enter func102,ntmps102
  go_wp2
  go_ret
  exact ⟨none,0,rfl,nB _ _ _ _,xC _⟩
 | some p =>
  have HR:=fA hr
  have HL:=fA hL
  clear hr hL
  go_enter func102,ntmps102
  go_wp2_with (at_builtin;refine yC rfl (.tmp 5) (.tmp 6) rfl zGW w.heap.size _ 0 [] (by rfl) (sD w #[] 0 (mA _) (vC _) (by simp)) (yA p) n cap xs (by rfl) HL.out (HR.out.alloc _) h1 (by unfold fC;omega) (by omega) (by simp) (fun h=>by cases h) ?_;intro a1 c1 w1 hown hg hat)
  simp only [bD,wE] at hown
  go_ret
  exact ⟨a1,c1,rfl,hown,Below.appended (wA w _) (sD (size:=2) w #[] 0 (mA _) (vC _) (by simp)) hg (by simp) (mA _)⟩
theorem zQj (a:Option mB) (cap n:Nat) (xs:List uB) (w:uA) (hr:dC w a xs) (hn0:a=none -> n=0) (hL:xs.length=n * 5) (h1:∀ u ∈ xs,u.oneCell'=true) (hs:n<=1000000) :
  iA prog 103 #[.slice a n cap] w (mD 176 5 n xs w):=by
 have q:=fun (w:uA) (a:Option mB) (n c n' c':Nat)=>mE w 53 176 a n c n' c' underlying53
 cases a with
 | none =>
  have h0:=hn0 rfl
  subst h0
  obtain rfl:=lC (by simpa using hL)
  clear hr hL
  go_enter func103,ntmps103
  go_wp2
  go_ret
  exact ⟨none,0,rfl,nB _ _ _ _,xC _⟩
 | some p =>
  have HR:=fA hr
  have HL:=fA hL
  clear hr hL
  go_enter func103,ntmps103
  go_wp2_with (at_builtin;refine yC rfl (.tmp 5) (.tmp 6) rfl zAe w.heap.size _ 0 [] (by rfl) (sD w #[] 0 (mA _) (vC _) (by simp)) (yA p) n cap xs (by rfl) HL.out (HR.out.alloc _) h1 (by unfold fC;omega) (by omega) (by simp) (fun h=>by cases h) ?_;intro a1 c1 w1 hown hg hat)
  simp only [bD,wE] at hown
  go_ret
  exact ⟨a1,c1,rfl,hown,Below.appended (wA w _) (sD (size:=5) w #[] 0 (mA _) (vC _) (by simp)) hg (by simp) (mA _)⟩
theorem zLh (a:Option mB) (cap n:Nat) (xs:List uB) (w:uA) (hr:dC w a xs) (hn0:a=none -> n=0) (hL:xs.length=n * 7) (h1:∀ u ∈ xs,u.oneCell'=true) (hs:n<=1000000) :
  iA prog 52 #[.slice a n cap] w (mD 105 7 n xs w):=by
 have q:=fun (w:uA) (a:Option mB) (n c n' c':Nat)=>mE w 54 105 a n c n' c' underlying54
 cases a with
 | none =>
  have h0:=hn0 rfl
  subst h0
  obtain rfl:=lC (by simpa using hL)
  clear hr hL
  go_enter func52,ntmps52
  go_wp2
  go_ret
  exact ⟨none,0,rfl,nB _ _ _ _,xC _⟩
 | some p =>
  have HR:=fA hr
  have HL:=fA hL
  clear hr hL
  go_enter func52,ntmps52
  go_wp2_with (at_builtin;refine yC rfl (.tmp 5) (.tmp 6) rfl cO w.heap.size _ 0 [] (by rfl) (sD w #[] 0 (mA _) (vC _) (by simp)) (yA p) n cap xs (by rfl) HL.out (HR.out.alloc _) h1 (by unfold fC;omega) (by omega) (by simp) (fun h=>by cases h) ?_;intro a1 c1 w1 hown hg hat)
  simp only [bD,wE] at hown
  go_ret
  exact ⟨a1,c1,rfl,hown,Below.appended (wA w _) (sD (size:=7) w #[] 0 (mA _) (vC _) (by simp)) hg (by simp) (mA _)⟩
theorem zQi (a:Option mB) (cap n:Nat) (xs:List uB) (w:uA) (hr:dC w a xs) (hn0:a=none -> n=0) (hL:xs.length=n * 2) (h1:∀ u ∈ xs,u.oneCell'=true) (hs:n<=1000000) :
  iA prog 124 #[.slice a n cap] w (mD 202 2 n xs w):=by
 have q:=fun (w:uA) (a:Option mB) (n c n' c':Nat)=>mE w 115 202 a n c n' c' underlying115
 cases a with
 | none =>
  have h0:=hn0 rfl
  subst h0
  obtain rfl:=lC (by simpa using hL)
  clear hr hL
  go_enter func124,ntmps124
  go_wp2
  go_ret
  exact ⟨none,0,rfl,nB _ _ _ _,xC _⟩
 | some p =>
  have HR:=fA hr
  have HL:=fA hL
  clear hr hL
  go_enter func124,ntmps124
  go_wp2_with (at_builtin;refine yC rfl (.tmp 5) (.tmp 6) rfl zEy w.heap.size _ 0 [] (by rfl) (sD w #[] 0 (mA _) (vC _) (by simp)) (yA p) n cap xs (by rfl) HL.out (HR.out.alloc _) h1 (by unfold fC;omega) (by omega) (by simp) (fun h=>by cases h) ?_;intro a1 c1 w1 hown hg hat)
  simp only [bD,wE] at hown
  go_ret
  exact ⟨a1,c1,rfl,hown,Below.appended (wA w _) (sD (size:=2) w #[] 0 (mA _) (vC _) (by simp)) hg (by simp) (mA _)⟩
theorem zQk (a:Option mB) (cap n:Nat) (xs:List uB) (w:uA) (hr:dC w a xs) (hn0:a=none -> n=0) (hL:xs.length=n * 5) (h1:∀ u ∈ xs,u.oneCell'=true) (hs:n<=1000000) :
  iA prog 332 #[.slice a n cap] w (mD 124 5 n xs w):=by
 have q:=fun (w:uA) (a:Option mB) (n c n' c':Nat)=>mE w 119 124 a n c n' c' underlying119
 cases a with
 | none =>
  have h0:=hn0 rfl
  subst h0
  obtain rfl:=lC (by simpa using hL)
  clear hr hL
  go_enter func332,ntmps332
  go_wp2
  go_ret
  exact ⟨none,0,rfl,nB _ _ _ _,xC _⟩
 | some p =>
  have HR:=fA hr
  have HL:=fA hL
  clear hr hL
  go_enter func332,ntmps332
  go_wp2_with (at_builtin;refine yC rfl (.tmp 5) (.tmp 6) rfl oX w.heap.size _ 0 [] (by rfl) (sD w #[] 0 (mA _) (vC _) (by simp)) (yA p) n cap xs (by rfl) HL.out (HR.out.alloc _) h1 (by unfold fC;omega) (by omega) (by simp) (fun h=>by cases h) ?_;intro a1 c1 w1 hown hg hat)
  simp only [bD,wE] at hown
  go_ret
  exact ⟨a1,c1,rfl,hown,Below.appended (wA w _) (sD (size:=5) w #[] 0 (mA _) (vC _) (by simp)) hg (by simp) (mA _)⟩
theorem jT (a:Option mB) (cap n:Nat) (xs:List uB) (w:uA) (hr:dC w a xs) (hn0:a=none -> n=0) (hL:xs.length=n * 1) (h1:∀ u ∈ xs,u.oneCell'=true) (hs:n<=1000000) :
  iA prog 121 #[.slice a n cap] w (mD 3 1 n xs w):=by
 have q:=fun (w:uA) (a:Option mB) (n c n' c':Nat)=>mE w 63 3 a n c n' c' underlying63
 cases a with
 | none =>
  have h0:=hn0 rfl
  subst h0
  obtain rfl:=lC (by simpa using hL)
  clear hr hL
  go_enter func121,ntmps121
  go_wp2
  go_ret
  exact ⟨none,0,rfl,nB _ _ _ _,xC _⟩
 | some p =>
  have HR:=fA hr
  have HL:=fA hL
  clear hr hL
  go_enter func121,ntmps121
  go_wp2_with (at_builtin;refine yC rfl (.tmp 5) (.tmp 6) rfl tN w.heap.size _ 0 [] (by rfl) (sD w #[] 0 (mA _) (vC _) (by simp)) (yA p) n cap xs (by rfl) HL.out (HR.out.alloc _) h1 (by unfold fC;omega) (by omega) (by simp) (fun h=>by cases h) ?_;intro a1 c1 w1 hown hg hat)
  simp only [bD,wE] at hown
  go_ret
  exact ⟨a1,c1,rfl,hown,Below.appended (wA w _) (sD (size:=1) w #[] 0 (mA _) (vC _) (by simp)) hg (by simp) (mA _)⟩
def gK (x y:Int):Int:=if x<y then -1 else if y<x then 1 else 0
theorem gP (x y:Int) (w:uA):iA prog 146 #[x,y] w fun e w'=>e=.returned (.int .i64 (gK x y))/\w'=w:=by
 unfold gK
 by_cases h1:x<y
 ·rw [if_pos h1]
  go_enter func146,ntmps146
  go_wp2
  go_ret
  exact ⟨rfl,rfl⟩
 by_cases h2:y<x
 ·rw [if_neg h1,if_pos h2]
  go_enter func146,ntmps146
  go_wp2
  go_ret
  exact ⟨rfl,rfl⟩
 ·rw [if_neg h1,if_neg h2]
  go_enter func146,ntmps146
  go_wp2
  go_ret
  exact ⟨rfl,rfl⟩
def dG (f:Nat -> Int) (i j:Nat):Nat:=if i<j then (if f ((i+j) / 2)<0 then dG f ((i+j) / 2+1) j else dG f i ((i+j) / 2)) else i
termination_by j - i
decreasing_by all_goals omega
def iT (f:Nat -> Int) (n:Nat):Int:=((dG f 0 n:Nat):Int)
def kL (f:Nat -> Int) (n:Nat):Bool:=decide (dG f 0 n<n) && decide (f (dG f 0 n)=0)
theorem zEm (f:Nat -> Int) (i j:Nat) (h:i<=j):i<=dG f i j/\dG f i j<=j:=by
 fun_induction dG f i j with
 | case1 i j h1 h2 ih=>have:=ih (by omega);omega
 | case2 i j h1 h2 ih=>have:=ih (by omega);omega
 | case3 i j h1=>omega
theorem zDR (x:Nd) (t:Int) (w:uA):iA prog 355 #[.agg (qH x).toArray,t] w fun e w'=>e=.returned (.int .i64 (gK x.1 t))/\Below w.heap.size w w':=by
 obtain ⟨x1,x2,x3,x4⟩:=x
 simp only [qH,List.toArray]
 have hal:=wA w (.cells #[x1,x2,x3,x4] 207)
 go_enter func355,ntmps355
 go_wp2_with (go_at_call 146;refine (gP _ _ _).mono ?_;rintro e wx ⟨rfl,hwx⟩;subst hwx)
 go_ret
 exact ⟨rfl,hal⟩
section
variable {P:Program}
theorem zAl (w:uA) {t e:tC} {z:uB} {k bytes:Nat} (E:oQ P t e z k bytes) (ty:tC) (b o dLen dCap:Nat) (a:mB) (sLen sCap m:Nat) (cs:List uB) (hm:m=Nat.min sLen dLen) (hn:cs.length=m * k)
  (hsrc:∀ j v,cs[j]?=yA v -> w.cell? (a.add j)=yA v) (hc:∀ j,j<cs.length -> (w.cell? ⟨b,o+j,none⟩).isSome=true) (hf:∀ j,j<cs.length -> w.frozen? ⟨b,o+j,none⟩=false) (h1:∀ v ∈ cs,v.oneCell'=true) :
  (iN #[t,t] ty #[.slice (yA ⟨b,o,none⟩) dLen dCap,.slice (yA a) sLen sCap]).run P w=.ok (goInt m) (w.setCells b o cs):=by
 obtain ⟨i0,hi0,hz0,hz1,hz2⟩:=info_parts E.info
 have hfc:=run_firstCells_some (P:=P) w k m a m sCap cs hn hsrc
 have hl:=run_loadCells_list (P:=P) w a cs hsrc
 have hst:=run_storeCells_cells (P:=P) b o cs 0 w (by simpa using hc) (by simpa using hf) h1
 simp only [yJ] at hst
 simp [iN,run_underlying E.under,Builtin.lenOf,Builtin.firstCells,sizeOf,typeInfo,hi0,hz1,<- hm,<- hn,hl,hst]
end
theorem zDC {A:Option mB} {n c:Nat} {b:Nat} (h:(zE A n c).ownBlock=yA b):b ∈ zB A:=by
 cases A with
 | none=>cases h
 | some p=>injection h with h;subst h;simp [zB]
theorem zMR {A:Option mB} {n c:Nat} {b:Nat} (h:b ∈ zB A):(zE A n c).ownBlock=yA b:=by
 cases A with
 | none=>cases h
 | some p=>simp only [zB,List.mem_singleton] at h;subst h;rfl
theorem tE {w w':uA} {A:Option mB} {n c:Nat} (hg:w.grownBy w' (zE A n c).ownBlock):fD (zB A) w w':=(fD.refl _ w).grown hg fun b hb=>.inl (zDC hb)
theorem wF {w:uA} {A A2:Option mB} {n c n2 c2:Nat} (hat:(zE A2 n2 c2).ownBlock=(zE A n c).ownBlock\/(zE A2 n2 c2).ownBlock=yA w.heap.size):∀ x ∈ zB A2,x ∈ zB A\/w.heap.size<=x:=fun x hx=>by
 have h1:=zMR (n:=n2) (c:=c2) hx
 rcases hat with q | q
 ·rw [q] at h1;exact .inl (zDC h1)
 ·rw [q] at h1;injection h1 with h1;exact .inr (Nat.le_of_eq h1)
def zDl (e:tC) (k n:Nat) (xs:List uB) (base:Nat) (A:Option mB) (w:uA) (en:Ending) (w':uA):Prop:=∃ A' c',en=.returned (.slice A' n c')/\w'.ownsRow base e k (.slice A' n c') n xs/\fD (zB A) w w'/\∀ b ∈ zB A',b ∈ zB A\/w.heap.size<=b
theorem zQe (A : Option mB) (c : Nat) (xs : List Nd) (t : Int) (w : uA) (h : yB qH w A c xs) : iA prog 354 #[.slice A xs.length c, .int .i64 t, .func (.func 355) #[] #[]] w fun e w' => e = .returned (.tuple #[.int .i64 (iT (fun m => gK (xs.getD m (0, 0, 0, 0)).1 t) xs.length), .bool (kL (fun m => gK (xs.getD m (0, 0, 0, 0)).1 t) xs.length)]) /\ Below w.heap.size w w' := by
 have HI:=fA h
 have hmx:=h.max
 obtain ⟨f,hf⟩:∃ f:Nat -> Int,f=fun m=>gK (xs.getD m (0,0,0,0)).1 t:=⟨_,rfl⟩
 have hfe:∀ m,gK (xs.getD m (0,0,0,0)).1 t=f m:=fun m=>by rw [hf]
 rw [<- hf]
 have HF:=fA hfe
 clear h hf hfe
 have hb0:=xC w
 go_enter func354,ntmps354
 go_wp2
 go_loopw [9,10] (fun i j wr=>∃ (p q:Nat),p<=q/\q<=xs.length/\i=.int .i64 (p:Int)/\j=.int .i64 (q:Int)/\jC (dG f p q=dG f 0 xs.length)/\Below w.heap.size w wr) (fun i j _=>(intOf j).toNat - (intOf i).toNat)
 case atStart=>exact ⟨0,xs.length,by omega,by omega,rfl,rfl,fA rfl,hb0⟩
 case round =>
  clear hb0
  obtain ⟨p,q,hpq,hq,rfl,rfl,HB,hw⟩:=hrel
  by_cases hlt:p<q
  ·have hlt':(p:Int)<(q:Int):=by omega
   have HB2:jC (dG f p q=if f ((p+q) / 2)<0 then dG f ((p+q) / 2+1) q else dG f p ((p+q) / 2)):=by
    show dG f p q=_
    rw [dG,if_pos hlt]
   have hpm:p<=(p+q) / 2/\(p+q) / 2<q:=by omega
   have em:((p:Int)+(q:Int)) / 2=(((p+q) / 2:Nat):Int):=by omega
   generalize (p+q) / 2=m at *
   have hm:m<xs.length:=by omega
   have hm0:(0:Int)<=(m:Int):=by omega
   have hm1:(m:Int)<(xs.length:Int):=by omega
   obtain ⟨b,off,rfl,blt,c0,c1,c2,c3⟩:=pR (HI.out.below hw) hm
   have hfm:=HF.out m
   rw [pB,rA hm,yD] at hfm
   generalize (xs[m]'hm)=x at *
   obtain ⟨x1,x2,x3,x4⟩:=x
   simp only at c0 c1 c2 c3 hfm
   have HC:jC (∀ W,iA prog 355 #[.agg #[x1,x2,x3,x4],.int .i64 t] W fun e w'=>e=.returned (.int .i64 (f m))/\Below W.heap.size W w'):=fun W=>by
    rw [<- hfm];exact zDR (x1,x2,x3,x4) t W
   clear hfm
   generalize f m=fm at *
   by_cases hneg:fm<0
   ·have HB3:jC (dG f (m+1) q=dG f 0 xs.length):=by
     have:=HB2.out
     rw [if_pos hneg] at this
     show dG f (m+1) q=_
     rw [<- this];exact HB.out
    clear HB2 HB
    go_wp2_with (go_at_call 355;refine (HC.out _).mono ?_;rintro e w1 ⟨rfl,hb1⟩;have hw1:=hw.trans (hb1.mono hw.size))
    go_roundw
    case rel=>exact ⟨m+1,q,by omega,by omega,by go_num,rfl,HB3,hw1⟩
    case measure=>simp [intOf];omega
   ·have HB3:jC (dG f p m=dG f 0 xs.length):=by
     have:=HB2.out
     rw [if_neg hneg] at this
     show dG f p m=_
     rw [<- this];exact HB.out
    clear HB2 HB
    go_wp2_with (go_at_call 355;refine (HC.out _).mono ?_;rintro e w1 ⟨rfl,hb1⟩;have hw1:=hw.trans (hb1.mono hw.size))
    go_roundw
    case rel=>exact ⟨p,m,by omega,by omega,rfl,rfl,HB3,hw1⟩
    case measure=>simp [intOf];omega
  have hlt':¬ (p:Int)<(q:Int):=by omega
  have HR:jC (p=dG f 0 xs.length):=by
   have:=HB.out
   rw [dG,if_neg hlt] at this
   exact this
  by_cases hin:p<xs.length
  ·have hin':(p:Int)<(xs.length:Int):=by omega
   have hp0:(0:Int)<=(p:Int):=by omega
   obtain ⟨b,off,rfl,blt,c0,c1,c2,c3⟩:=pR (HI.out.below hw) hin
   have hfm:=HF.out p
   rw [pB,rA hin,yD] at hfm
   generalize (xs[p]'hin)=x at *
   obtain ⟨x1,x2,x3,x4⟩:=x
   simp only at c0 c1 c2 c3 hfm
   have HC:jC (∀ W,iA prog 355 #[.agg #[x1,x2,x3,x4],.int .i64 t] W fun e w'=>e=.returned (.int .i64 (f p))/\Below W.heap.size W w'):=fun W=>by
    rw [<- hfm];exact zDR (x1,x2,x3,x4) t W
   have HZ:jC (kL f xs.length=decide (f p=0)):=fA (by unfold kL;rw [<- HR.out];simp [hin])
   have HP:jC (iT f xs.length=(p:Int)):=fA (by unfold iT;rw [<- HR.out])
   obtain ⟨fm,hfm2⟩:∃ fm,fm=f p:=⟨_,rfl⟩
   rw [<- hfm2] at HC HZ
   have HG:=fA hfm2
   clear hfm HB hfm2
   go_wp2_with (go_at_call 355;refine (HC.out _).mono ?_;rintro e w1 ⟨rfl,hb1⟩;have hw1:=hw.trans (hb1.mono hw.size))
   go_ret2
   exact ⟨by rw [HP.out,HZ.out];rfl,hw1⟩
  ·have hin':¬ (p:Int)<(xs.length:Int):=by omega
   have HZ:jC (kL f xs.length=false):=fA (by unfold kL;rw [<- HR.out];simp [hin])
   have HP:jC (iT f xs.length=(p:Int)):=fA (by unfold iT;rw [<- HR.out])
   clear HB
   go_wp2
   go_ret2
   exact ⟨by rw [HP.out,HZ.out];rfl,hw⟩
def btw (n a b:Int):Bool:=decide (a<=n) && decide (n<=b)
def fZ (x:Nd):Bool:=btw x.1 1 16 && btw x.2.1 1 8 && btw x.2.2.1 1 16 && btw x.2.2.2 0 2
def jH:Int -> List Nd -> Bool
 | _,[]=>true
 | l,x :: xs=>fZ x && decide (l<x.1) && jH x.1 xs
theorem zAT (n a b:Int) (w:uA):iA prog 287 #[n,a,b] w fun e w'=>e=.returned (.bool (btw n a b))/\w'=w:=by
 unfold btw
 by_cases h:a<=n
 all_goals (
  go_enter func287,ntmps287
  go_wp2
  go_ret
  exact ⟨bC (by simp [h];try omega),rfl⟩)
theorem zIr (x1 x2 x3 x4:Int) (w:uA):iA prog 213 #[.agg #[x1,x2,x3,x4]] w fun e w'=>e=.returned (.bool (fZ (x1,x2,x3,x4)))/\Below w.heap.size w w':=by
 have hal:=wA w (.cells #[x1,x2,x3,x4] 207)
 have h1:=fun W=>zAT x1 1 16 W
 have h2:=fun W=>zAT x2 1 8 W
 have h3:=fun W=>zAT x3 1 16 W
 have h4:=fun W=>zAT x4 0 2 W
 unfold fZ
 simp only
 generalize btw x1 1 16=b1 at *
 generalize btw x2 1 8=b2 at *
 generalize btw x3 1 16=b3 at *
 generalize btw x4 0 2=b4 at *
 have H1:=fA h1
 have H2:=fA h2
 have H3:=fA h3
 have H4:=fA h4
 clear h1 h2 h3 h4
 cases b1 <;> cases b2 <;> cases b3
 all_goals (
  go_enter func213,ntmps213
  go_wp2_with (first
   | (go_at_call 287;(with_reducible refine (H1.out _).mono ?_);rintro e wx ⟨rfl,hwx⟩;subst hwx)
   | (go_at_call 287;(with_reducible refine (H2.out _).mono ?_);rintro e wx ⟨rfl,hwx⟩;subst hwx)
   | (go_at_call 287;(with_reducible refine (H3.out _).mono ?_);rintro e wx ⟨rfl,hwx⟩;subst hwx)
   | (go_at_call 287;(with_reducible refine (H4.out _).mono ?_);rintro e wx ⟨rfl,hwx⟩;subst hwx))
  go_ret
  exact ⟨bC (by simp),hal⟩)
theorem zOM (l:Int) (xs:List Nd) {k:Nat} (hk:k<xs.length):jH l (xs.drop k)=(fZ (xs[k]'hk) && decide (l<(xs[k]'hk).1) && jH (xs[k]'hk).1 (xs.drop (k+1))):=by rw [pD hk];rfl
theorem zBB (A : Option mB) (c : Nat) (xs : List Nd) (w : uA) (h : yB qH w A c xs) : iA prog 126 #[.slice A xs.length c] w fun e w' => e = .returned (.bool (jH 0 xs)) /\ Below w.heap.size w w' := by
 have HI:=fA h
 have hmx:=h.max
 have hb0:=xC w
 have HR0:jC (jH 0 (xs.drop 0)=jH 0 xs):=fA rfl
 clear h
 go_enter func126,ntmps126
 go_wp2
 go_loopw [3,8] (fun v i wr=>∃ (k:Nat) (l:Int),k<=xs.length/\v=.int .i64 l/\i=.int .i64 (k:Int)/\jC (jH l (xs.drop k)=jH 0 xs)/\Below w.heap.size w wr) (fun _ i _=>xs.length - (intOf i).toNat)
 case atStart=>exact ⟨0,0,by omega,rfl,rfl,HR0,hb0⟩
 case round =>
  clear hb0 HR0
  obtain ⟨k,l,hk,rfl,rfl,HR,hw⟩:=hrel
  have hk0:(0:Int)<=(k:Int):=by omega
  by_cases hlt:k<xs.length
  ·have hk1:(k:Int)<(xs.length:Int):=by omega
   have HS:=fA (zOM l xs hlt)
   obtain ⟨b,off,rfl,blt,c0,c1,c2,c3⟩:=pR (HI.out.below hw) hlt
   generalize (xs[k]'hlt)=x at *
   obtain ⟨x1,x2,x3,x4⟩:=x
   simp only at c0 c1 c2 c3 HS
   have HM:jC (∀ W,iA prog 213 #[.agg #[x1,x2,x3,x4]] W fun e w'=>e=.returned (.bool (fZ (x1,x2,x3,x4)))/\Below W.heap.size W w'):=fun W=>zIr x1 x2 x3 x4 W
   have hal:=wA wr (.cells #[x1,x2,x3,x4] 207)
   have gX:=rB wr (.cells #[x1,x2,x3,x4] 207)
   have hw0:=hw.trans (hal.mono hw.size)
   generalize fZ (x1,x2,x3,x4)=ok at *
   cases ok with
   | false =>
    have HZ:jC (jH 0 xs=false):=fA (by rw [<- HR.out,HS.out];rfl)
    go_wp2_with (go_at_call 213;refine (HM.out _).mono ?_;rintro e w1 ⟨rfl,hb1⟩;have g1:=kA hb1 gX;have hw1:=hw0.trans (hb1.mono hw0.size);obtain ⟨d0,d1,d2,d3,df,dlt⟩:=zND g1)
    go_ret
    exact ⟨bC HZ.out.symm,hw1⟩
   | true =>
    by_cases hl:x1<=l
    ·have HZ:jC (jH 0 xs=false):=fA (by rw [<- HR.out,HS.out,decide_eq_false (by omega)];rfl)
     go_wp2_with (go_at_call 213;refine (HM.out _).mono ?_;rintro e w1 ⟨rfl,hb1⟩;have g1:=kA hb1 gX;have hw1:=hw0.trans (hb1.mono hw0.size);obtain ⟨d0,d1,d2,d3,df,dlt⟩:=zND g1)
     go_ret
     exact ⟨bC HZ.out.symm,hw1⟩
    ·have HZ:jC (jH x1 (xs.drop (k+1))=jH 0 xs):=fA (by rw [<- HR.out,HS.out,decide_eq_true (by omega)];rfl)
     go_wp2_with (go_at_call 213;refine (HM.out _).mono ?_;rintro e w1 ⟨rfl,hb1⟩;have g1:=kA hb1 gX;have hw1:=hw0.trans (hb1.mono hw0.size);obtain ⟨d0,d1,d2,d3,df,dlt⟩:=zND g1)
     go_roundw
     case rel=>exact ⟨k+1,x1,by omega,rfl,by go_num,HZ,hw1⟩
     case measure=>simp [intOf];omega
  have hk1:¬ (k:Int)<(xs.length:Int):=by omega
  have HZ:jC (jH 0 xs=true):=fA (by rw [<- HR.out,fF (by omega)];rfl)
  go_wp2
  go_ret
  exact ⟨bC HZ.out.symm,hw⟩
def kG (x:Int):List uB:=[.int .i64 x]
theorem dN:∀ x,(kG x).length=1:=fun _=>rfl
theorem cV:∀ x,∀ u ∈ kG x,u.oneCell'=true:=fun x u hu=>by
 simp only [kG,pE,List.not_mem_nil,or_false] at hu
 subst hu;rfl
theorem uO:∀ xs:List Int,flat kG xs=xs.map zOr
 | []=>rfl
 | x :: xs=>by rw [vK,uO xs];rfl
theorem uJ {w:uA} {A:Option mB} {c:Nat} {xs:List Int} (h:yB kG w A c xs) {i:Nat} (hi:i<xs.length):∃ b off,A=yA ⟨b,off,none⟩/\b<w.heap.size/\w.cell? ⟨b,off+i,none⟩=yA (.int .i64 (xs[i]'hi)):=by
 obtain ⟨b,off,ha,hb,hc⟩:=h.at_ dN hi (by decide)
 have:=hc 0 _ rfl
 rw [Nat.mul_one,yJ] at this
 exact ⟨b,off,ha,hb,this⟩
abbrev Ch:=Int × Int × Int × List Int
def zAY (x:Ch) (a:Option mB × Nat):Cr:=(x.1,x.2.1,x.2.2.1,a.1,x.2.2.2.length,a.2)
def bF (xs:List Ch) (ps:List (Option mB × Nat)):List Cr:=List.zipWith zAY xs ps
theorem vJ {xs:List Ch} {ps:List (Option mB × Nat)} (h:ps.length=xs.length):(bF xs ps).length=xs.length:=by unfold bF;rw [List.length_zipWith,h,Nat.min_self]
theorem fS {xs:List Ch} {ps:List (Option mB × Nat)} {i:Nat} (hi:i<xs.length) (ha:i<ps.length) (hr:i<(bF xs ps).length):(bF xs ps)[i]'hr=zAY (xs[i]'hi) (ps[i]'ha):=List.getElem_zipWith (h:=hr)
def vM (w:uA) (A:Option mB) (c:Nat) (xs:List Ch):Prop:=∃ ps:List (Option mB × Nat),ps.length=xs.length/\yB zDJ w A c (bF xs ps)/\∀ (i:Nat) (x:Ch) (a:Option mB × Nat),xs[i]?=yA x -> ps[i]?=yA a -> yB kG w a.1 a.2 x.2.2.2
namespace vM
variable {w w':uA} {A:Option mB} {c:Nat} {xs:List Ch}
theorem nil:vM w none 0 []:=⟨[],rfl,yB.nil,fun i x a h=>by simp at h⟩
theorem below (h:vM w A c xs) (hb:Below w.heap.size w w'):vM w' A c xs:=by
 obtain ⟨ps,h1,h2,h3⟩:=h
 exact ⟨ps,h1,h2.below hb,fun i x a p q=>(h3 i x a p q).below hb⟩
theorem max (h:vM w A c xs):xs.length<=1000000:=by
 obtain ⟨ps,h1,h2,h3⟩:=h
 have:=h2.max
 rwa [vJ h1] at this
theorem cap (h:vM w A c xs):xs.length<=c:=by
 obtain ⟨ps,h1,h2,h3⟩:=h
 have:=h2.cap
 rwa [vJ h1] at this
theorem none_ (h:vM w A c xs):A=none -> xs.length=0:=fun e=>by
 obtain ⟨ps,h1,h2,h3⟩:=h
 have:=h2.none_ e
 rwa [vJ h1] at this
theorem cells (h:vM w A c xs) {i:Nat} (hi:i<xs.length):∃ b off a cc,A=yA ⟨b,off,none⟩/\b<w.heap.size/\w.cell? ⟨b,off+i * 4,none⟩=yA (.int .i64 (xs[i]'hi).1)/\w.cell? ⟨b,off+i * 4+1,none⟩=yA (.int .i64 (xs[i]'hi).2.1)/\w.cell? ⟨b,off+i * 4+2,none⟩=yA (.int .u32 (xs[i]'hi).2.2.1)/\w.cell? ⟨b,off+i * 4+3,none⟩=yA (.slice a (xs[i]'hi).2.2.2.length cc)/\yB kG w a cc (xs[i]'hi).2.2.2:=by
 obtain ⟨ps,h1,h2,h3⟩:=h
 have hl:=vJ h1
 obtain ⟨b,off,ha,hb,c0,c1,c2,c3⟩:=zNQ h2 (show i<(bF xs ps).length by omega)
 rw [fS hi (by omega)] at c0 c1 c2 c3
 exact ⟨b,off,(ps[i]'(by omega)).1,(ps[i]'(by omega)).2,ha,hb,c0,c1,c2,c3,h3 i _ _ (rA hi) (rA (by omega))⟩
end vM
structure zEg (w:uA) (base:Nat) (A:Option mB) (c:Nat) (xs:List Ch) (ps:List (Option mB × Nat)):Prop where
 len:ps.length=xs.length
 row:w.ownsRow base 65 4 (.slice A xs.length c) xs.length (flat zDJ (bF xs ps))
 hold:∀ (i:Nat) (x:Ch) (a:Option mB × Nat),xs[i]?=yA x -> ps[i]?=yA a -> w.ownsRow base 3 1 (.slice a.1 x.2.2.2.length a.2) x.2.2.2.length (flat kG x.2.2.2)/\x.2.2.2.length<=1000000
 apart:∀ (i j:Nat) (a b:Option mB × Nat),i≠j -> ps[i]?=yA a -> ps[j]?=yA b -> ∀ k ∈ zB a.1,k ∉ zB b.1
 main:∀ (i:Nat) (a:Option mB × Nat),ps[i]?=yA a -> ∀ k ∈ zB a.1,k ∉ zB A
def lH (w:uA) (base:Nat) (A:Option mB) (c:Nat) (xs:List Ch):Prop:=∃ ps,zEg w base A c xs ps
theorem lH.nil (w:uA) (base:Nat):lH w base none 0 []:=⟨[],rfl,nB _ _ _ _,fun i x a h=>by simp at h,fun i j a b _ h=>by simp at h,fun i a h=>by simp at h⟩
theorem lH.below {w w':uA} {base:Nat} {A:Option mB} {c:Nat} {xs:List Ch} (h:lH w base A c xs) (hb:Below w.heap.size w w'):lH w' base A c xs:=by
 obtain ⟨ps,h⟩:=h
 exact ⟨ps,h.len,jB h.row hb,fun i x a p q=>⟨jB (h.hold i x a p q).1 hb,(h.hold i x a p q).2⟩,h.apart,h.main⟩
theorem lH.rebase {w:uA} {base base':Nat} {A:Option mB} {c:Nat} {xs:List Ch} (h:lH w base A c xs) (hb:base'<=base):lH w base' A c xs:=by
 obtain ⟨ps,h⟩:=h
 exact ⟨ps,h.len,oC h.row hb,fun i x a p q=>⟨oC (h.hold i x a p q).1 hb,(h.hold i x a p q).2⟩,h.apart,h.main⟩
theorem lH.in_ {w:uA} {base:Nat} {A:Option mB} {c:Nat} {xs:List Ch} (h:lH w base A c xs) (hm:xs.length<=1000000):vM w A c xs:=by
 obtain ⟨ps,h⟩:=h
 have hl:=vJ h.len
 refine ⟨ps,h.len,?_,fun i x a p q=>yB.of_own (h.hold i x a p q).1 (h.hold i x a p q).2⟩
 have:=h.row
 rw [<- hl] at this
 exact yB.of_own this (by omega)
def zFC (xs:List Ch) (w:uA) (en:Ending) (w':uA):Prop:=∃ A c,en=.returned (.slice A xs.length c)/\lH w' w.heap.size A c xs/\Below w.heap.size w w'
def wT (r:List Ch × Int) (w:uA) (en:Ending) (w':uA):Prop:=∃ A c,en=.returned (.tuple #[.slice A r.1.length c,r.2])/\lH w' w.heap.size A c r.1/\Below w.heap.size w w'
theorem zId {α:Type} {enc:α -> List uB} {k:Nat} (hk:∀ x,(enc x).length=k):∀ (xs:List α) (i j:Nat) (y:α) (u:uB) (hi:i<xs.length),enc y=(enc (xs[i]'hi)).set j u -> j<k -> (flat enc xs).set (i * k+j) u=flat enc (xs.set i y)
 | x :: xs, 0, j, y, u, hi, hy, hj => by
  rw [vK,Nat.zero_mul,bD,List.set_append_left _ _ (by rw [hk];exact hj)]
  simp only [List.set_cons_zero,vK]
  rw [hy];rfl
 | x :: xs, i + 1, j, y, u, hi, hy, hj => by
  rw [vK,List.set_append_right _ _ (by rw [hk,cH];omega),hk,show (i+1) * k+j - k=i * k+j by rw [cH];omega]
  rw [zId hk xs i j y u (by simpa using hi) hy hj,List.set_cons_succ,vK]
def mJ:List Int -> Int -> Int -> Bool
 | [],_,_=>true
 | n :: l,a,b=>decide (a<=n) && decide (n<=b) && mJ l (n+1) b
theorem zML (xs:List Int) (a b:Int) {k:Nat} (hk:k<xs.length):mJ (xs.drop k) a b=(decide (a<=xs[k]'hk) && decide (xs[k]'hk<=b) && mJ (xs.drop (k+1)) (xs[k]'hk+1) b):=by rw [pD hk];rfl
def mW (x:Ch):Bool:=decide (1<=x.2.1) && decide (x.2.1<=1073741824) && mJ x.2.2.2 1 16
def pG (xs:List Ch):Bool:=xs.all mW && (decide (xs.length<=32) && mJ (xs.map (·.1)) 1 1048576)
def iD (xs:List Ch):List Ch:=if pG xs then xs else []
theorem nS (xs:List Ch):(iD xs).length<=xs.length:=by unfold iD;split <;> simp
def zPP:Ch:=(0,0,0,[])
def cfn (xs:List Ch) (t:Int):Nat -> Int:=fun m=>gK (xs.getD m zPP).1 t
def rF (xs:List Ch) (t:Int):Ch × Bool:=if kL (cfn (iD xs) t) (iD xs).length then ((iD xs).getD (dG (cfn (iD xs) t) 0 (iD xs).length) zPP,true) else (zPP,false)
section
variable {α:Type}
def bE (p:α -> Bool):List α -> Nat -> Int
 | [],_=>-1
 | x :: xs,i=>if p x then (i:Int) else bE p xs (i+1)
theorem iU (p:α -> Bool) (xs:List α) {k:Nat} (hk:k<xs.length):bE p (xs.drop k) k=if p (xs[k]'hk) then (k:Int) else bE p (xs.drop (k+1)) (k+1):=by rw [pD hk];rfl
theorem kR (p:α -> Bool) (xs:List α) {k:Nat} (hk:xs.length<=k):bE p (xs.drop k) k=-1:=by rw [fF hk];rfl
def eU (p:α -> Bool) (xs:List α):Bool:=decide (0<=bE p xs 0)
theorem fM (p : α -> Bool) : ∀ (xs : List α) (i : Nat), (bE p xs i = -1 /\ ∀ x ∈ xs, p x = false) \/ ∃ k, ∃ (hk : k < xs.length), bE p xs i = ((i + k : Nat) : Int) /\ p (xs[k]'hk) = true /\ ∀ x ∈ xs.take k, p x = false
 | [],i=>.inl ⟨rfl,fun x h=>by cases h⟩
 | x :: xs, i => by
  cases hx:p x with
  | true=>exact .inr ⟨0,by simp,by simp [bE,hx],by simpa using hx,by simp⟩
  | false =>
   rcases fM p xs (i+1) with ⟨e,h⟩ | ⟨k,hk,e,h,h2⟩
   ·exact .inl ⟨by simp [bE,hx,e],fun y hy=>by
    by_cases e:y=x
    ·rw [e];exact hx
    ·exact h y ((pE.1 hy).resolve_left e)⟩
   ·refine .inr ⟨k+1,by simpa using hk,?_,by simpa using h,fun y hy => ?_⟩
    ·simp only [bE,hx,Bool.false_eq_true,if_false,e];omega
    ·rw [List.take_succ_cons] at hy
     by_cases e:y=x
     ·rw [e];exact hx
     ·exact h2 y ((pE.1 hy).resolve_left e)
def yR (g:Nat) (lb:Array uB) (enc:α -> uB) (p:α -> Bool) (w:uA):Prop :=
 ∀ (W:uA) (x:α),Below w.heap.size w W -> iA prog g (#[enc x] ++ lb) W fun e w'=>e=.returned (.bool (p x))/\Below W.heap.size W w'
theorem yR.below {g:Nat} {lb:Array uB} {enc:α -> uB} {p:α -> Bool} {w w':uA} (h:yR g lb enc p w) (hb:Below w.heap.size w w'):yR g lb enc p w':=fun W x hW=>h W x (hb.trans (hW.mono hb.size))
def nE (p:α -> Bool) (xs:List α):List α:=xs.filter (fun x => !p x)
theorem wJ (p:α -> Bool) (xs:List α):(nE p xs).length<=xs.length:=List.length_filter_le _ _
end
def ctn (xs:List Int) (v:Int):Bool:=eU (fun y=>decide (v=y)) xs
theorem zBi {α:Type} {enc:α -> List uB} {k:Nat} (hk:∀ x,(enc x).length=k) {w:uA} {base:Nat} {e:tC} {g n c:Nat} {xs:List α} (h:w.ownsRow base e k (.slice (yA ⟨g,0,none⟩) n c) n (flat enc xs)) {i j:Nat} {y:α} {u:uB} (hi:i<xs.length) (hj:j<k) (hy:enc y=(enc (xs[i]'hi)).set j u):(w.setCell ⟨g,i * k+j,none⟩ u).ownsRow base e k (.slice (yA ⟨g,0,none⟩) n c) n (flat enc (xs.set i y)):=by
 rw [<- zId hk xs i j y u hi hy hj]
 exact zGq h _ _
end Go.Proofs.YtogbpifcmhafkaaGreat
