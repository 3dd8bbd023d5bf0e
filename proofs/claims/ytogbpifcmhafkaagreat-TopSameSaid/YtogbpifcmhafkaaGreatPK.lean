/-
 Part PK of the proof.
-/
import Derived.Test.YtogbpifcmhafkaaGreatPG
open Go renaming Addr->mB,Calls->iA,World->uA
open Go.Lib renaming hid->fA
open Go.RowKit renaming Hid->jC
open Go.Value renaming int->dD
open Go.World renaming ownsRow_nil->nB
open List renaming drop_eq_getElem_cons->pD,drop_eq_nil_of_le->fF,getD_eq_getElem?_getD->pB,getElem?_eq_getElem->rA,getElem?_eq_some_iff->xF,getElem_append_right->sP,length_map->mC,take_of_length_le->zC,take_succ_eq_append_getElem->tB
open Nat renaming le_refl->mA,le_trans->pA,sub_self->sU
open Option renaming getD_some->yD,some->yA
namespace Go.Proofs.YtogbpifcmhafkaaGreat
open Go.RowKit Tryz
open Go.Lib(hid)
set_option linter.unusedVariables false
set_option linter.unusedSimpArgs false
set_option maxRecDepth 100000
set_option maxHeartbeats 16000000
theorem zMM (A : Option mB) (c : Nat) (xs : List Int) (a b : Int) (w : uA) (h : yB kG w A c xs) (ha : -4611686018427387904 <= a) (hb : b <= 4611686018427387904) : iA prog 167 #[.slice A xs.length c, a, b] w fun e w' => e = .returned (.bool (mJ xs a b)) /\ w' = w := by
 have HI:=fA h
 have hmx:=h.max
 have HR0:jC (mJ (xs.drop 0) a b=mJ xs a b):=fA rfl
 clear h
 go_enter func167,ntmps167
 go_wp2
 go_loopw [1,11] (fun v i wr=>∃ (k:Nat) (l:Int),k<=xs.length/\-4611686018427387904<=l/\v=.int .i64 l/\i=.int .i64 (k:Int)/\jC (mJ (xs.drop k) l b=mJ xs a b)/\wr=w) (fun _ i _=>xs.length - (intOf i).toNat)
 case atStart=>exact ⟨0,a,by omega,ha,rfl,rfl,HR0,rfl⟩
 case round =>
  clear HR0
  obtain ⟨k,l,hk,hl,rfl,rfl,HR,rfl⟩:=hrel
  have hk0:(0:Int)<=(k:Int):=by omega
  by_cases hlt:k<xs.length
  ·have hk1:(k:Int)<(xs.length:Int):=by omega
   have HS:=fA (zML xs l b hlt)
   obtain ⟨bb,off,rfl,blt,c0⟩:=uJ HI.out hlt
   generalize (xs[k]'hlt)=x at *
   by_cases hx1:x<l
   ·have HZ:jC (mJ xs a b=false):=fA (by rw [<- HR.out,HS.out,decide_eq_false (by omega)];rfl)
    go_wp2
    go_ret
    exact ⟨bC HZ.out.symm,rfl⟩
   by_cases hx2:b<x
   ·have HZ:jC (mJ xs a b=false):=fA (by rw [<- HR.out,HS.out,decide_eq_false (p:=x<=b) (by omega)];simp)
    go_wp2
    go_ret
    exact ⟨bC HZ.out.symm,rfl⟩
   have HZ:jC (mJ (xs.drop (k+1)) (x+1) b=mJ xs a b):=fA (by rw [<- HR.out,HS.out,decide_eq_true (p:=x<=b) (by omega),decide_eq_true (by omega)];rfl)
   have hx3:x+1<=4611686018427387905:=by omega
   have hx4:-4611686018427387904<=x+1:=by omega
   go_wp2
   go_roundw
   case rel=>exact ⟨k+1,x+1,by omega,hx4,by go_num,by go_num,HZ,trivial⟩
   case measure=>simp [intOf];omega
  have hk1:¬ (k:Int)<(xs.length:Int):=by omega
  have HZ:jC (mJ xs a b=true):=fA (by rw [<- HR.out,fF (by omega)];rfl)
  go_wp2
  go_ret
  exact ⟨bC HZ.out.symm,rfl⟩
theorem zFs {α:Type} (p:α -> Bool) (xs:List α) {k:Nat} (hk:k<xs.length):(xs.take (k+1)).all p=((xs.take k).all p && p (xs[k]'hk)):=by rw [tB hk,List.all_append];simp
theorem zGF {α:Type} (p:α -> Bool) (xs:List α) {k:Nat} (hk:k<xs.length) (h:p (xs[k]'hk)=false):xs.all p=false:=by
 rw [List.all_eq_false];exact ⟨_,List.getElem_mem hk,by simp [h]⟩
theorem pZ (A : Option mB) (c : Nat) (xs : List Ch) (w : uA) (h : vM w A c xs) : iA prog 101 #[.slice A xs.length c] w fun e w' => e = .returned (.bool (pG xs)) /\ Below w.heap.size w w' := by
 have HI:=fA h
 have hmx:=h.max
 have hb0:=xC w
 have HR0:jC ((xs.take 0).all mW=true):=fA rfl
 have how0:w.ownsRow w.heap.size 3 1 (.slice none 0 0) 0 ((xs.take 0).map fun x=>dD .i64 x.1):=nB _ _ _ _
 have HRI:jC (∀ (W:uA) (A:Option mB) (c:Nat) (ys:List Int) (a b:Int),yB kG W A c ys -> -4611686018427387904<=a -> b<=4611686018427387904 -> iA prog 167 #[.slice A ys.length c,.int .i64 a,.int .i64 b] W fun e w'=>e=.returned (.bool (mJ ys a b))/\w'=W):=fun W A c ys a b h ha hb=>zMM A c ys a b W h ha hb
 clear h
 go_enter func101,ntmps101
 go_wp2
 go_loopw [3,8] (fun v i wr=>∃ (k c:Nat) (A:Option mB),k<=xs.length/\v=.slice A k c/\i=.int .i64 (k:Int)/\jC ((xs.take k).all mW=true)/\jC (wr.ownsRow w.heap.size 3 1 (.slice A k c) k ((xs.take k).map fun x=>dD .i64 x.1))/\Below w.heap.size w wr) (fun _ i _=>xs.length - (intOf i).toNat)
 case atStart=>exact ⟨0,0,none,by omega,rfl,rfl,HR0,how0,hb0⟩
 case round =>
  clear hb0 HR0 how0
  obtain ⟨k,c',A',hk,rfl,rfl,HR,HO,hw⟩:=hrel
  have hk0:(0:Int)<=(k:Int):=by omega
  by_cases hlt:k<xs.length
  ·have hk1:(k:Int)<(xs.length:Int):=by omega
   have HS:=fA (zFs mW xs hlt)
   have HF:=fA (zGF mW xs hlt)
   have HT:jC ((xs.take (k+1)).map (fun x=>dD .i64 x.1)=(xs.take k).map (fun x=>dD .i64 x.1) ++ [.int .i64 (xs[k]'hlt).1]):=fA (by rw [tB hlt,List.map_append];rfl)
   obtain ⟨b,off,a,cc,rfl,blt,c0,c1,c2,c3,HH⟩:=(HI.out.below hw).cells hlt
   generalize (xs[k]'hlt)=x at *
   obtain ⟨x1,x2,x3,x4⟩:=x
   simp only at c0 c1 c2 c3 HH HT
   have HOK:jC (mW (x1,x2,x3,x4)=(decide (1<=x2) && decide (x2<=1073741824) && mJ x4 1 16)):=fA rfl
   have hal:=wA wr (.cells #[x1,x2,.int .u32 x3,.slice a x4.length cc] 65)
   have gX:=rB wr (.cells #[x1,x2,.int .u32 x3,.slice a x4.length cc] 65)
   have hw0:=hw.trans (hal.mono hw.size)
   by_cases h1:x2<1
   ·have HZ:jC (pG xs=false):=fA (by unfold pG;rw [HF.out (by rw [HOK.out,decide_eq_false (by omega)];rfl)];rfl)
    go_wp2
    go_ret
    exact ⟨bC HZ.out.symm,hw0⟩
   by_cases h2:1073741824<x2
   ·have HZ:jC (pG xs=false):=fA (by unfold pG;rw [HF.out (by rw [HOK.out,decide_eq_false (p:=x2<=1073741824) (by omega)];simp)];rfl)
    go_wp2
    go_ret
    exact ⟨bC HZ.out.symm,hw0⟩
   have hri:jC (∀ W,Below wr.heap.size wr W -> iA prog 167 #[.slice a x4.length cc,.int .i64 1,.int .i64 16] W fun e w'=>e=.returned (.bool (mJ x4 1 16))/\Below W.heap.size W w'):=fA fun W hb=>(HRI.out W a cc x4 1 16 (HH.below hb) (by omega) (by omega)).mono fun e w' h=>⟨h.1,by rw [h.2];exact xC W⟩
   clear HH
   have HX4:=fA (show Below wr.heap.size wr wr from xC wr)
   cases hr:mJ x4 1 16 with
   | false =>
    rw [hr] at hri
    have HZ:jC (pG xs=false):=fA (by unfold pG;rw [HF.out (by rw [HOK.out,hr,Bool.and_false])];rfl)
    clear hr
    go_wp2_with (go_at_call 167;refine (hri.out _ hal).mono ?_;rintro e w1 ⟨rfl,hb1⟩;have g1:=kA hb1 gX;have hw1:=hw0.trans (hb1.mono hw0.size);obtain ⟨d0,d1,d2,d3,df,dlt⟩:=zND g1)
    go_ret
    exact ⟨bC HZ.out.symm,hw1⟩
   | true =>
    rw [hr] at hri
    have HZ:jC ((xs.take (k+1)).all mW=true):=fA (by rw [HS.out,HR.out,HOK.out,hr,decide_eq_true (by omega),decide_eq_true (p:=x2<=1073741824) (by omega)];rfl)
    clear hr
    go_wp2_with (first
     | (go_at_call 167;refine (hri.out _ hal).mono ?_;rintro e w1 ⟨rfl,hb1⟩;have g1:=kA hb1 gX;have hw1:=hw0.trans (hb1.mono hw0.size);obtain ⟨d0,d1,d2,d3,df,dlt⟩:=zND g1;have HO1:=fA (jB (jB HO.out hal) hb1))
     | (at_builtin;refine yC rfl (.tmp 26) (.tmp 29) rfl tN w.heap.size (.slice A' k c') k _ (by rfl) (jB HO1.out (wA w1 _)) (yA ⟨w1.heap.size,0,none⟩) 1 1 [.int .i64 x1] (by rfl) rfl (dC.new w1 _ _) (by simp [Value.oneCell']) (by unfold maxLen;omega) (by omega) (pA hw1.size (wA w1 _).size) (fun h=>by cases h) ?_;intro a1 c1 w2 hown hg hat))
    rw [<- HT.out] at hown
    have hw2:=Below.appended (hw1.trans ((wA w1 _).mono hw1.size)) (jB HO1.out (wA w1 _)) hg (pA hw1.size (wA w1 _).size) (mA _)
    go_roundw
    case rel=>exact ⟨k+1,c1,a1,by omega,rfl,by go_num,HZ,fA hown,hw2⟩
    case measure=>simp [intOf];omega
  have hk1:¬ (k:Int)<(xs.length:Int):=by omega
  have hke:k=xs.length:=by omega
  subst hke
  have HA:jC (xs.all mW=true):=fA (by have:=HR.out;rwa [zC (mA _)] at this)
  have HF1:jC (yB kG wr A' c' (xs.map (·.1))):=fA (by
   have:=HO.out
   rw [zC (mA _)] at this
   have e:xs.map (fun x=>dD .i64 x.1)=flat kG (xs.map (·.1)):=by rw [uO,List.map_map];rfl
   rw [e,<- mC (f:=fun x:Ch=>x.1)] at this
   exact yB.of_own this (by simpa using hmx))
  have hri:jC (iA prog 167 #[.slice A' xs.length c',.int .i64 1,.int .i64 1048576] wr fun e w'=>e=.returned (.bool (mJ (xs.map (·.1)) 1 1048576))/\w'=wr):=fA (by
   have:=HRI.out wr A' c' (xs.map (·.1)) 1 1048576 HF1.out (by omega) (by omega)
   rwa [mC] at this)
  by_cases h32:xs.length<=32
  ·have h32':(xs.length:Int)<=32:=by omega
   have HZ:jC (pG xs=mJ (xs.map (·.1)) 1 1048576):=fA (by unfold pG;rw [HA.out,decide_eq_true h32];rfl)
   generalize mJ (xs.map (·.1)) 1 1048576=rr at *
   go_wp2_with (go_at_call 167;refine hri.out.mono ?_;rintro e w1 ⟨rfl,rfl⟩)
   go_ret
   exact ⟨bC HZ.out.symm,hw⟩
  ·have h32':¬ (xs.length:Int)<=32:=by omega
   have HZ:jC (pG xs=false):=fA (by unfold pG;rw [HA.out,decide_eq_false h32];rfl)
   go_wp2
   go_ret
   exact ⟨bC HZ.out.symm,hw⟩
theorem zEA (x1 x2:Int) (t:Int) (w:uA):iA prog 217 #[.agg #[x1,x2],.int .i64 t] w fun e w'=>e=.returned (.int .i64 (gK x1 t))/\Below w.heap.size w w':=by
 have hal:=wA w (.cells #[x1,x2] 173)
 go_enter func217,ntmps217
 go_wp2_with (go_at_call 146;refine (gP _ _ _).mono ?_;rintro e wx ⟨rfl,hwx⟩;subst hwx)
 go_ret
 exact ⟨rfl,hal⟩
theorem zQc (A : Option mB) (c : Nat) (xs : List Bt) (t : Int) (w : uA) (h : yB zU w A c xs) : iA prog 216 #[.slice A xs.length c, .int .i64 t, .func (.func 217) #[] #[]] w fun e w' => e = .returned (.tuple #[.int .i64 (iT (fun m => gK (xs.getD m (0, 0)).1 t) xs.length), .bool (kL (fun m => gK (xs.getD m (0, 0)).1 t) xs.length)]) /\ Below w.heap.size w w' := by
 have HI:=fA h
 have hmx:=h.max
 obtain ⟨f,hf⟩:∃ f:Nat -> Int,f=fun m=>gK (xs.getD m (0,0)).1 t:=⟨_,rfl⟩
 have hfe:∀ m,gK (xs.getD m (0,0)).1 t=f m:=fun m=>by rw [hf]
 rw [<- hf]
 have HF:=fA hfe
 clear h hf hfe
 have hb0:=xC w
 go_enter func216,ntmps216
 go_wp2
 go_loopw [9,10] (fun i j wr=>∃ (p q:Nat),p<=q/\q<=xs.length/\i=.int .i64 (p:Int)/\j=.int .i64 (q:Int)/\jC (dG f p q=dG f 0 xs.length)/\Below w.heap.size w wr) (fun i j _=>(intOf j).toNat - (intOf i).toNat)
 case atStart=>exact ⟨0,xs.length,by omega,by omega,rfl,rfl,fA rfl,hb0⟩
 case round =>
  clear hb0
  obtain ⟨p,q,hpq,hq,rfl,rfl,HB,hw⟩:=hrel
  by_cases hlt:p<q
  ·have hlt':(p:Int)<(q:Int):=by omega
   have HB2:jC (dG f p q=if f ((p+q) / 2)<0 then dG f ((p+q) / 2+1) q else dG f p ((p+q) / 2)):=by
    show dG f p q=_
    rw [dG,if_pos hlt]
   have hpm:p<=(p+q) / 2/\(p+q) / 2<q:=by omega
   have em:((p:Int)+(q:Int)) / 2=(((p+q) / 2:Nat):Int):=by omega
   generalize (p+q) / 2=m at *
   have hm:m<xs.length:=by omega
   have hm0:(0:Int)<=(m:Int):=by omega
   have hm1:(m:Int)<(xs.length:Int):=by omega
   obtain ⟨b,off,rfl,blt,c0,c1⟩:=zCU (HI.out.below hw) hm
   have hfm:=HF.out m
   rw [pB,rA hm,yD] at hfm
   generalize (xs[m]'hm)=x at *
   obtain ⟨x1,x2⟩:=x
   simp only at c0 c1 hfm
   have HC:jC (∀ W,iA prog 217 #[.agg #[x1,x2],.int .i64 t] W fun e w'=>e=.returned (.int .i64 (f m))/\Below W.heap.size W w'):=fun W=>by
    rw [<- hfm];exact zEA x1 x2 t W
   clear hfm
   generalize f m=fm at *
   by_cases hneg:fm<0
   ·have HB3:jC (dG f (m+1) q=dG f 0 xs.length):=by
     have:=HB2.out
     rw [if_pos hneg] at this
     show dG f (m+1) q=_
     rw [<- this];exact HB.out
    clear HB2 HB
    go_wp2_with (go_at_call 217;refine (HC.out _).mono ?_;rintro e w1 ⟨rfl,hb1⟩;have hw1:=hw.trans (hb1.mono hw.size))
    go_roundw
    case rel=>exact ⟨m+1,q,by omega,by omega,by go_num,rfl,HB3,hw1⟩
    case measure=>simp [intOf];omega
   ·have HB3:jC (dG f p m=dG f 0 xs.length):=by
     have:=HB2.out
     rw [if_neg hneg] at this
     show dG f p m=_
     rw [<- this];exact HB.out
    clear HB2 HB
    go_wp2_with (go_at_call 217;refine (HC.out _).mono ?_;rintro e w1 ⟨rfl,hb1⟩;have hw1:=hw.trans (hb1.mono hw.size))
    go_roundw
    case rel=>exact ⟨p,m,by omega,by omega,rfl,rfl,HB3,hw1⟩
    case measure=>simp [intOf];omega
  have hlt':¬ (p:Int)<(q:Int):=by omega
  have HR:jC (p=dG f 0 xs.length):=by
   have:=HB.out
   rw [dG,if_neg hlt] at this
   exact this
  by_cases hin:p<xs.length
  ·have hin':(p:Int)<(xs.length:Int):=by omega
   have hp0:(0:Int)<=(p:Int):=by omega
   obtain ⟨b,off,rfl,blt,c0,c1⟩:=zCU (HI.out.below hw) hin
   have hfm:=HF.out p
   rw [pB,rA hin,yD] at hfm
   generalize (xs[p]'hin)=x at *
   obtain ⟨x1,x2⟩:=x
   simp only at c0 c1 hfm
   have HC:jC (∀ W,iA prog 217 #[.agg #[x1,x2],.int .i64 t] W fun e w'=>e=.returned (.int .i64 (f p))/\Below W.heap.size W w'):=fun W=>by
    rw [<- hfm];exact zEA x1 x2 t W
   have HZ:jC (kL f xs.length=decide (f p=0)):=fA (by unfold kL;rw [<- HR.out];simp [hin])
   have HP:jC (iT f xs.length=(p:Int)):=fA (by unfold iT;rw [<- HR.out])
   obtain ⟨fm,hfm2⟩:∃ fm,fm=f p:=⟨_,rfl⟩
   rw [<- hfm2] at HC HZ
   have HG:=fA hfm2
   clear hfm HB hfm2
   go_wp2_with (go_at_call 217;refine (HC.out _).mono ?_;rintro e w1 ⟨rfl,hb1⟩;have hw1:=hw.trans (hb1.mono hw.size))
   go_ret2
   exact ⟨by rw [HP.out,HZ.out];rfl,hw1⟩
  ·have hin':¬ (p:Int)<(xs.length:Int):=by omega
   have HZ:jC (kL f xs.length=false):=fA (by unfold kL;rw [<- HR.out];simp [hin])
   have HP:jC (iT f xs.length=(p:Int)):=fA (by unfold iT;rw [<- HR.out])
   clear HB
   go_wp2
   go_ret2
   exact ⟨by rw [HP.out,HZ.out];rfl,hw⟩
theorem zDQ (x1 x2 x3:Int) (a:Option mB) (n cc:Nat) (t:Int) (w:uA):iA prog 145 #[.agg #[x1,x2,.int .u32 x3,.slice a n cc],.int .i64 t] w fun e w'=>e=.returned (.int .i64 (gK x1 t))/\Below w.heap.size w w':=by
 have hal:=wA w (.cells #[x1,x2,.int .u32 x3,.slice a n cc] 65)
 go_enter func145,ntmps145
 go_wp2_with (go_at_call 146;refine (gP _ _ _).mono ?_;rintro e wx ⟨rfl,hwx⟩;subst hwx)
 go_ret
 exact ⟨rfl,hal⟩
theorem zQd (A : Option mB) (c : Nat) (xs : List Ch) (t : Int) (w : uA) (h : vM w A c xs) : iA prog 144 #[.slice A xs.length c, .int .i64 t, .func (.func 145) #[] #[]] w fun e w' => e = .returned (.tuple #[.int .i64 (iT (fun m => gK (xs.getD m zPP).1 t) xs.length), .bool (kL (fun m => gK (xs.getD m zPP).1 t) xs.length)]) /\ Below w.heap.size w w' := by
 have HI:=fA h
 have hmx:=h.max
 obtain ⟨f,hf⟩:∃ f:Nat -> Int,f=fun m=>gK (xs.getD m zPP).1 t:=⟨_,rfl⟩
 have hfe:∀ m,gK (xs.getD m zPP).1 t=f m:=fun m=>by rw [hf]
 rw [<- hf]
 have HF:=fA hfe
 clear h hf hfe
 have hb0:=xC w
 go_enter func144,ntmps144
 go_wp2
 go_loopw [9,10] (fun i j wr=>∃ (p q:Nat),p<=q/\q<=xs.length/\i=.int .i64 (p:Int)/\j=.int .i64 (q:Int)/\jC (dG f p q=dG f 0 xs.length)/\Below w.heap.size w wr) (fun i j _=>(intOf j).toNat - (intOf i).toNat)
 case atStart=>exact ⟨0,xs.length,by omega,by omega,rfl,rfl,fA rfl,hb0⟩
 case round =>
  clear hb0
  obtain ⟨p,q,hpq,hq,rfl,rfl,HB,hw⟩:=hrel
  by_cases hlt:p<q
  ·have hlt':(p:Int)<(q:Int):=by omega
   have HB2:jC (dG f p q=if f ((p+q) / 2)<0 then dG f ((p+q) / 2+1) q else dG f p ((p+q) / 2)):=by
    show dG f p q=_
    rw [dG,if_pos hlt]
   have hpm:p<=(p+q) / 2/\(p+q) / 2<q:=by omega
   have em:((p:Int)+(q:Int)) / 2=(((p+q) / 2:Nat):Int):=by omega
   generalize (p+q) / 2=m at *
   have hm:m<xs.length:=by omega
   have hm0:(0:Int)<=(m:Int):=by omega
   have hm1:(m:Int)<(xs.length:Int):=by omega
   obtain ⟨b,off,a,cc,rfl,blt,c0,c1,c2,c3,HH⟩:=(HI.out.below hw).cells hm
   have hfm:=HF.out m
   rw [pB,rA hm,yD] at hfm
   generalize (xs[m]'hm)=x at *
   obtain ⟨x1,x2,x3,x4⟩:=x
   simp only at c0 c1 c2 c3 hfm
   clear HH
   have HC:jC (∀ W,iA prog 145 #[.agg #[x1,x2,.int .u32 x3,.slice a x4.length cc],.int .i64 t] W fun e w'=>e=.returned (.int .i64 (f m))/\Below W.heap.size W w'):=fun W=>by
    rw [<- hfm];exact zDQ x1 x2 x3 a x4.length cc t W
   clear hfm
   generalize f m=fm at *
   by_cases hneg:fm<0
   ·have HB3:jC (dG f (m+1) q=dG f 0 xs.length):=by
     have:=HB2.out
     rw [if_pos hneg] at this
     show dG f (m+1) q=_
     rw [<- this];exact HB.out
    clear HB2 HB
    go_wp2_with (go_at_call 145;refine (HC.out _).mono ?_;rintro e w1 ⟨rfl,hb1⟩;have hw1:=hw.trans (hb1.mono hw.size))
    go_roundw
    case rel=>exact ⟨m+1,q,by omega,by omega,by go_num,rfl,HB3,hw1⟩
    case measure=>simp [intOf];omega
   ·have HB3:jC (dG f p m=dG f 0 xs.length):=by
     have:=HB2.out
     rw [if_neg hneg] at this
     show dG f p m=_
     rw [<- this];exact HB.out
    clear HB2 HB
    go_wp2_with (go_at_call 145;refine (HC.out _).mono ?_;rintro e w1 ⟨rfl,hb1⟩;have hw1:=hw.trans (hb1.mono hw.size))
    go_roundw
    case rel=>exact ⟨p,m,by omega,by omega,rfl,rfl,HB3,hw1⟩
    case measure=>simp [intOf];omega
  have hlt':¬ (p:Int)<(q:Int):=by omega
  have HR:jC (p=dG f 0 xs.length):=by
   have:=HB.out
   rw [dG,if_neg hlt] at this
   exact this
  by_cases hin:p<xs.length
  ·have hin':(p:Int)<(xs.length:Int):=by omega
   have hp0:(0:Int)<=(p:Int):=by omega
   obtain ⟨b,off,a,cc,rfl,blt,c0,c1,c2,c3,HH⟩:=(HI.out.below hw).cells hin
   have hfm:=HF.out p
   rw [pB,rA hin,yD] at hfm
   generalize (xs[p]'hin)=x at *
   obtain ⟨x1,x2,x3,x4⟩:=x
   simp only at c0 c1 c2 c3 hfm
   clear HH
   have HC:jC (∀ W,iA prog 145 #[.agg #[x1,x2,.int .u32 x3,.slice a x4.length cc],.int .i64 t] W fun e w'=>e=.returned (.int .i64 (f p))/\Below W.heap.size W w'):=fun W=>by
    rw [<- hfm];exact zDQ x1 x2 x3 a x4.length cc t W
   have HZ:jC (kL f xs.length=decide (f p=0)):=fA (by unfold kL;rw [<- HR.out];simp [hin])
   have HP:jC (iT f xs.length=(p:Int)):=fA (by unfold iT;rw [<- HR.out])
   obtain ⟨fm,hfm2⟩:∃ fm,fm=f p:=⟨_,rfl⟩
   rw [<- hfm2] at HC HZ
   have HG:=fA hfm2
   clear hfm HB hfm2
   go_wp2_with (go_at_call 145;refine (HC.out _).mono ?_;rintro e w1 ⟨rfl,hb1⟩;have hw1:=hw.trans (hb1.mono hw.size))
   go_ret2
   exact ⟨by rw [HP.out,HZ.out];rfl,hw1⟩
  ·have hin':¬ (p:Int)<(xs.length:Int):=by omega
   have HZ:jC (kL f xs.length=false):=fA (by unfold kL;rw [<- HR.out];simp [hin])
   have HP:jC (iT f xs.length=(p:Int)):=fA (by unfold iT;rw [<- HR.out])
   clear HB
   go_wp2
   go_ret2
   exact ⟨by rw [HP.out,HZ.out];rfl,hw⟩
theorem rE {w:uA} {base:Nat} {e:TypeId} {size:Nat} {A:Option mB} {m cap:Nat} {n:Nat} {xs:List Value} (h:w.ownsRow base e size (.slice A m cap) n xs) {b:Nat} (hne:∀ x ∈ zB A,x≠b) (i:Nat) (v:Value):(w.setCell ⟨b,i,none⟩ v).ownsRow base e size (.slice A m cap) n xs :=
 xE h ((fD.refl [b] w).setCell (.inl (by simp)) i v) fun x hx hc=>hne x hx (by simpa using hc)
structure kM (W:uA) (base:Nat) (A:Option mB) (c n:Nat) (olds:List Cr) (ys:List Ch) (qs:List (Option mB × Nat)):Prop where
 len:qs.length=ys.length
 old:olds.length=n
 row:W.ownsRow base 65 4 (.slice A n c) n (flat zDJ (bF ys qs ++ olds.drop ys.length))
 hold:∀ (i:Nat) (x:Ch) (a:Option mB × Nat),ys[i]?=yA x -> qs[i]?=yA a -> W.ownsRow base 3 1 (.slice a.1 x.2.2.2.length a.2) x.2.2.2.length (flat kG x.2.2.2)/\x.2.2.2.length<=1000000
 apart:∀ (i j:Nat) (a b:Option mB × Nat),i≠j -> qs[i]?=yA a -> qs[j]?=yA b -> ∀ k ∈ zB a.1,k ∉ zB b.1
 main:∀ (i:Nat) (a:Option mB × Nat),qs[i]?=yA a -> ∀ k ∈ zB a.1,k ∉ zB A
theorem kM.start {W:uA} {base:Nat} {A:Option mB} {c n:Nat} {olds:List Cr} (h:W.ownsRow base 65 4 (.slice A n c) n (flat zDJ olds)) (hn:olds.length=n):kM W base A c n olds [] [] :=
 ⟨rfl,hn,by simpa [bF] using h,fun i x a h=>by simp at h,fun i j a b _ h=>by simp at h,fun i a h=>by simp at h⟩
theorem kM.below {W W':uA} {base:Nat} {A:Option mB} {c n:Nat} {olds:List Cr} {ys:List Ch} {qs:List (Option mB × Nat)} (h:kM W base A c n olds ys qs) (hb:Below W.heap.size W W'):kM W' base A c n olds ys qs :=
 ⟨h.len,h.old,jB h.row hb,fun i x a p q=>⟨jB (h.hold i x a p q).1 hb,(h.hold i x a p q).2⟩,h.apart,h.main⟩
theorem kM.done {W:uA} {base:Nat} {A:Option mB} {c n:Nat} {olds:List Cr} {ys:List Ch} {qs:List (Option mB × Nat)} (h:kM W base A c n olds ys qs) (hn:ys.length=n):lH W base A c ys:=by
 refine ⟨qs,h.len,?_,h.hold,h.apart,h.main⟩
 have:=h.row
 rwa [fF (by rw [h.old,hn];exact mA _),List.append_nil,<- hn] at this
theorem getElem?_snoc {α:Type} {xs:List α} {y:α} {i:Nat} {x:α} (h:(xs ++ [y])[i]?=yA x):xs[i]?=yA x\/(i=xs.length/\x=y):=by
 rcases Nat.lt_trichotomy i xs.length with q | q | q
 ·rw [List.getElem?_append_left q] at h;exact .inl h
 ·subst q;rw [List.getElem?_append_right (mA _),sU] at h;simp at h;exact .inr ⟨rfl,h.symm⟩
 ·rw [List.getElem?_eq_none (by simp;omega)] at h;cases h
theorem kM.step {W W1 : uA} {base g B' : Nat} {c n : Nat} {olds : List Cr} {ys : List Ch} {qs : List (Option mB × Nat)} (h : kM W base (yA ⟨g, 0, none⟩) c n olds ys qs) (hk : ys.length < n) (hb : Below W.heap.size W W1) {a : Option mB} {cc : Nat} {hs : List Int}
  (hB:W.heap.size<=B') (hbase:base<=W.heap.size) (ho:W1.ownsRow B' 3 1 (.slice a hs.length cc) hs.length (flat kG hs)) (hm:hs.length<=1000000) {y:Ch} (hy1:y.1=(olds[ys.length]'(by rw [h.old];exact hk)).1) (hy2:y.2.1=(olds[ys.length]'(by rw [h.old];exact hk)).2.1) (hy3:y.2.2.1=(olds[ys.length]'(by rw [h.old];exact hk)).2.2.1) (hy4:y.2.2.2=hs) :
  kM (W1.setCell ⟨g,ys.length * 4+3,none⟩ (.slice a hs.length cc)) base (yA ⟨g,0,none⟩) c n olds (ys ++ [y]) (qs ++ [(a,cc)]):=by
 have hl:=h.len
 have hkO:ys.length<olds.length:=by rw [h.old];exact hk
 have hcl:=vJ hl
 have hgo:=qC h.row g (by simp [zB])
 have hna:∀ x ∈ zB a,x≠g:=fun x hx=>by have:=(qC ho x hx).1;omega
 refine ⟨by simp [hl],h.old,?_,?_,?_,?_⟩
 ·have h1:=jB h.row hb
  have hi:ys.length<(bF ys qs ++ olds.drop ys.length).length:=by simp [hcl];omega
  have hg:(bF ys qs ++ olds.drop ys.length)[ys.length]'hi=olds[ys.length]'hkO:=by
   rw [sP (by omega)]
   simp [hcl]
  have h2:=zBi jU h1 (i:=ys.length) (j:=3) (y:=zAY y (a,cc)) (u:=.slice a hs.length cc) hi (by decide) (by
   rw [hg]
   simp only [zDJ,zAY,hy1,hy2,hy3,hy4]
   rfl)
  have e:(bF ys qs ++ olds.drop ys.length).set ys.length (zAY y (a,cc))=bF (ys ++ [y]) (qs ++ [(a,cc)]) ++ olds.drop (ys ++ [y]).length:=by
   rw [List.set_append_right _ _ (by omega),hcl,sU,pD hkO,List.set_cons_zero]
   unfold bF
   rw [List.zipWith_append hl.symm]
   simp
  rw [e] at h2
  exact h2
 ·intro i x q hx hq
  rcases getElem?_snoc hx with hx' | ⟨hi,rfl⟩
  ·rcases getElem?_snoc hq with hq' | ⟨hi,rfl⟩
   ·have:=h.hold i x q hx' hq'
    exact ⟨rE (jB this.1 hb) (fun z hz hc=>h.main i q hq' z hz (by subst hc;simp [zB])) _ _,this.2⟩
   ·have:=(xF.1 hx').1
    omega
  ·rcases getElem?_snoc hq with hq' | ⟨_,rfl⟩
   ·have:=(xF.1 hq').1
    omega
   ·rw [hy4]
    exact ⟨rE (oC ho (by omega)) hna _ _,hm⟩
 ·intro i j p q hij hp hq
  rcases getElem?_snoc hp with hp' | ⟨hi,rfl⟩
  ·have hpo:=(xF.1 hp').1
   have hp2:=qC (h.hold i (ys[i]'(by omega)) p (rA (by omega)) hp').1
   rcases getElem?_snoc hq with hq' | ⟨hj,rfl⟩
   ·exact h.apart i j p q hij hp' hq'
   ·intro k hk1 hk2
    have:=hp2 k hk1
    have:=qC ho k hk2
    omega
  ·rcases getElem?_snoc hq with hq' | ⟨hj,rfl⟩
   ·have hqo:=(xF.1 hq').1
    have hq2:=qC (h.hold j (ys[j]'(by omega)) q (rA (by omega)) hq').1
    intro k hk1 hk2
    have:=hq2 k hk2
    have:=qC ho k hk1
    omega
   ·omega
 ·intro i q hq k hk1 hk2
  rcases getElem?_snoc hq with hq' | ⟨_,rfl⟩
  ·exact h.main i q hq' k hk1 hk2
  ·have:=qC ho k hk1
   have e:k=g:=by simpa [zB] using hk2
   omega
theorem kM.cells {W:uA} {base:Nat} {A:Option mB} {c n:Nat} {olds:List Cr} {ys:List Ch} {qs:List (Option mB × Nat)} (h:kM W base A c n olds ys qs) (hk:ys.length<n):∃ g,A=yA ⟨g,0,none⟩/\base<=g/\g<W.heap.size/\W.cell? ⟨g,ys.length * 4,none⟩=yA (.int .i64 (olds[ys.length]'(by rw [h.old];exact hk)).1)/\W.cell? ⟨g,ys.length * 4+1,none⟩=yA (.int .i64 (olds[ys.length]'(by rw [h.old];exact hk)).2.1)/\W.cell? ⟨g,ys.length * 4+2,none⟩=yA (.int .u32 (olds[ys.length]'(by rw [h.old];exact hk)).2.2.1)/\W.cell? ⟨g,ys.length * 4+3,none⟩=yA (.slice (olds[ys.length]'(by rw [h.old];exact hk)).2.2.2.1 (olds[ys.length]'(by rw [h.old];exact hk)).2.2.2.2.1 (olds[ys.length]'(by rw [h.old];exact hk)).2.2.2.2.2)/\W.frozen? ⟨g,ys.length * 4+3,none⟩=false:=by
 have hkO:ys.length<olds.length:=by rw [h.old];exact hk
 have hcl:=vJ h.len
 obtain ⟨g,cap',hv,_⟩:=h.row.form (by omega)
 injection hv with hv
 subst hv
 have hgo:=qC h.row g (by simp [zB])
 have hi:ys.length<(bF ys qs ++ olds.drop ys.length).length:=by simp [hcl];omega
 have hg:(bF ys qs ++ olds.drop ys.length)[ys.length]'hi=olds[ys.length]'hkO:=by
  rw [sP (by omega)]
  simp [hcl]
 have hr:=h.row
 have q:∀ j u,j<4 -> (zDJ (olds[ys.length]'hkO))[j]?=yA u -> W.cell? ⟨g,ys.length * 4+j,none⟩=yA u:=fun j u hj hu=>mH hr (by rw [tK jU hi hj,hg];exact hu)
 exact ⟨g,rfl,hgo.1,hgo.2,q 0 _ (by decide) rfl,q 1 _ (by decide) rfl,q 2 _ (by decide) rfl,q 3 _ (by decide) rfl,mG hr _⟩
theorem zBv (A : Option mB) (c : Nat) (xs : List Ch) (w : uA) (h : vM w A c xs) : iA prog 73 #[.slice A xs.length c] w (zFC (iD xs) w) := by
 have HM:jC (iA prog 101 #[.slice A xs.length c] w fun e w'=>e=.returned (.bool (pG xs))/\Below w.heap.size w w'):=pZ A c xs w h
 have hmx:=h.max
 have hn0:=h.none_
 unfold iD
 cases hok:pG xs with
 | false =>
  rw [hok] at HM
  rw [if_neg (by decide)]
  clear hok h
  go_enter func73,ntmps73
  go_wp2_with (go_at_call 101;refine HM.out.mono ?_;rintro e w1 ⟨rfl,hb1⟩)
  go_ret
  exact ⟨none,0,rfl,lH.nil _ _,hb1⟩
 | true =>
  rw [hok] at HM
  rw [if_pos rfl]
  obtain ⟨ps,hpl,hrow,hhold⟩:=h
  have hcl:=vJ hpl
  have HC:jC (∀ W,Below w.heap.size w W -> iA prog 143 #[.slice A xs.length c] W (mD 65 4 xs.length (flat zDJ (bF xs ps)) W)):=fun W hb=>zGT A c xs.length (flat zDJ (bF xs ps)) W (hrow.row.below hb) hn0 (by rw [jD jU,hcl]) (jF zEv _) hmx
  have HH:jC (∀ (i:Nat) (x:Ch) (a:Option mB × Nat),xs[i]?=yA x -> ps[i]?=yA a -> ∀ W,Below w.heap.size w W -> iA prog 121 #[.slice a.1 x.2.2.2.length a.2] W (mD 3 1 x.2.2.2.length (flat kG x.2.2.2) W)/\x.2.2.2.length<=1000000):=fA fun i x a p q W hb=>by
   have f:=(hhold i x a p q).below hb
   exact ⟨jT a.1 a.2 x.2.2.2.length (flat kG x.2.2.2) W f.row f.none_ (jD dN _) (jF cV _) f.max,f.max⟩
  clear hok hrow hhold hn0
  have HP:=fA hpl
  clear hpl
  go_enter func73,ntmps73
  go_wp2_with (first
   | (go_at_call 101;refine HM.out.mono ?_;rintro e w1 ⟨rfl,hb1⟩)
   | (go_at_call 143;refine (HC.out _ hb1).mono ?_;rintro e w2 ⟨A2,c2,rfl,own2,hb2⟩;have hw2:=hb1.trans (hb2.mono hb1.size);have HO2:=fA (oC own2 hb1.size);clear own2))
  go_loopw [4,5,13] (fun v4 v5 i wr=>∃ (k:Nat) (qs:List (Option mB × Nat)),k<=xs.length/\i=.int .i64 (k:Int)/\jC (kM wr w.heap.size A2 c2 xs.length (bF xs ps) (xs.take k) qs)/\Below w.heap.size w wr) (fun _ _ i _=>xs.length - (intOf i).toNat)
  case atStart=>exact ⟨0,[],by omega,rfl,fA (kM.start HO2.out hcl),hw2⟩
  case round =>
   clear hw2 hb1 hb2 HO2
   obtain ⟨k,qs,hk,rfl,HX,hw⟩:=hrel
   have hk0:(0:Int)<=(k:Int):=by omega
   by_cases hlt:k<xs.length
   ·have hk1:(k:Int)<(xs.length:Int):=by omega
    have hlp:k<ps.length:=by rw [HP.out];exact hlt
    have hkt:(xs.take k).length=k:=by rw [List.length_take];omega
    have hco:k<(bF xs ps).length:=by omega
    have hat:=fS hlt hlp hco
    have hCE:=HX.out.cells (by omega)
    simp only [hkt,hat] at hCE
    obtain ⟨g,hAg,hbg,hgl,c0,c1,c2',c3,f3⟩:=hCE
    subst hAg
    have HHk:=HH.out k _ _ (rA hlt) (rA hlp)
    have hxt:xs.take (k+1)=xs.take k ++ [xs[k]'hlt]:=tB hlt
    generalize (ps[k]'hlp)=a at *
    generalize (xs[k]'hlt)=x at *
    obtain ⟨x1,x2,x3,x4⟩:=x
    obtain ⟨a1,a2⟩:=a
    simp only [zAY] at c0 c1 c2' c3 HHk hat
    have HST:jC (∀ (W1:uA) (a:Option mB) (cc:Nat),Below wr.heap.size wr W1 -> W1.ownsRow wr.heap.size 3 1 (.slice a x4.length cc) x4.length (flat kG x4) -> kM (W1.setCell ⟨g,k * 4+3,none⟩ (.slice a x4.length cc)) w.heap.size (yA ⟨g,0,none⟩) c2 xs.length (bF xs ps) (xs.take (k+1)) (qs ++ [(a,cc)])):=fA fun W1 a cc hb ho=>by
     have:=HX.out.step (W1:=W1) (a:=a) (cc:=cc) (hs:=x4) (y:=(x1,x2,x3,x4)) (by omega) hb (mA _) hw.size ho (HHk wr hw).2 (by simp only [hkt,hat]) (by simp only [hkt,hat]) (by simp only [hkt,hat]) rfl
     rw [hkt,<- hxt] at this
     exact this
    have HCL:jC (∀ W,Below w.heap.size w W -> iA prog 121 #[.slice a1 x4.length a2] W (mD 3 1 x4.length (flat kG x4) W)):=fA fun W hb=>(HHk W hb).1
    clear HHk hxt hat
    have hal:=wA wr (.cells #[x1,x2,.int .u32 x3,.slice a1 x4.length a2] 65)
    have gX:=rB wr (.cells #[x1,x2,.int .u32 x3,.slice a1 x4.length a2] 65)
    have hw0:=hw.trans (hal.mono hw.size)
    go_wp2_with (go_at_call 121;refine (HCL.out _ hw0).mono ?_;rintro e w3 ⟨A3,cc3,rfl,own3,hb3⟩;have hb30:=hal.trans (hb3.mono hal.size);have hw3:=hw.trans (hb30.mono hw.size);have HO3:=fA (oC own3 hal.size);clear own3;have m3:=((bcell hb30).1 g (k * 4+3) hgl).trans c3;have n3:=((bcell hb30).2 g (k * 4+3) hgl).trans f3)
    have HN:=HST.out w3 A3 cc3 hb30 HO3.out
    go_roundw
    case rel=>exact ⟨k+1,_,by omega,by go_num,fA HN,hw3.setCell (p:=⟨g,k * 4+3,none⟩) hbg _⟩
    case measure=>simp [intOf];omega
   have hk1:¬ (k:Int)<(xs.length:Int):=by omega
   have hke:k=xs.length:=by omega
   subst hke
   go_wp2
   go_ret
   refine ⟨A2,c2,rfl,?_,hw⟩
   have:=HX.out.done (by simp)
   rwa [zC (mA _)] at this
def zGM (x:Bt):Bool:=decide (1<=x.1) && decide (x.1<=16) && decide (0<=x.2) && decide (x.2<=1099511627776)
def cY:Int -> List Bt -> Bool
 | _,[]=>true
 | l,x :: xs=>zGM x && decide (l<x.1) && cY x.1 xs
theorem zNF (l:Int) (xs:List Bt) {k:Nat} (hk:k<xs.length):cY l (xs.drop k)=(zGM (xs[k]'hk) && decide (l<(xs[k]'hk).1) && cY (xs[k]'hk).1 (xs.drop (k+1))):=by rw [pD hk];rfl
theorem zIq (x1 x2 : Int) (w : uA) : iA prog 131 #[.agg #[x1, x2]] w fun e w' => e = .returned (.bool (zGM (x1, x2))) /\ Below w.heap.size w w' := by
 have hal:=wA w (.cells #[x1,x2] 173)
 unfold zGM
 simp only
 by_cases h1:1<=x1
 ·by_cases h2:x1<=16
  ·by_cases h3:0<=x2
   all_goals (
    go_enter func131,ntmps131
    go_wp2
    go_ret
    exact ⟨bC (by simp [h1,h2,h3] <;> (intros;omega)),hal⟩)
  ·go_enter func131,ntmps131
   go_wp2
   go_ret
   exact ⟨bC (by simp [h1,h2] <;> (intros;omega)),hal⟩
 ·go_enter func131,ntmps131
  go_wp2
  go_ret
  exact ⟨bC (by simp [h1] <;> (intros;omega)),hal⟩
def vG (xs:List Bt):List Bt:=if cY 0 xs then xs else []
theorem zEz (xs:List Bt):(vG xs).length<=xs.length:=by unfold vG;split <;> simp
theorem zFR (A : Option mB) (c : Nat) (xs : List Bt) (w : uA) (h : yB zU w A c xs) : iA prog 130 #[.slice A xs.length c] w (mD 173 2 (vG xs).length (flat zU (vG xs)) w) := by
 have HI:=fA h
 have hmx:=h.max
 have hb0:=xC w
 have HR0:jC (cY 0 (xs.drop 0)=cY 0 xs):=fA rfl
 have HCL:jC (∀ W,Below w.heap.size w W -> iA prog 102 #[.slice A xs.length c] W (mD 173 2 xs.length (flat zU xs) W)):=fA fun W hb=>zLe A c xs.length (flat zU xs) W (h.row.below hb) h.none_ (jD zCt xs) (jF zGN xs) h.max
 have HMA:=fA zIq
 have HY1:jC (cY 0 xs=true -> vG xs=xs):=fA fun h=>if_pos h
 have HY2:jC (cY 0 xs=false -> vG xs=[]):=fA fun h=>by unfold vG;rw [if_neg (by simp [h])]
 generalize vG xs=ys at *
 obtain ⟨ok,hok⟩:∃ ok,ok=cY 0 xs:=⟨_,rfl⟩
 rw [<- hok] at HR0 HY1 HY2
 clear h hok
 go_enter func130,ntmps130
 go_wp2
 go_loopw [3,5,8] (fun v v5 i wr=>∃ (k:Nat) (l:Int),k<=xs.length/\v=.int .i64 l/\i=.int .i64 (k:Int)/\jC (cY l (xs.drop k)=ok)/\Below w.heap.size w wr) (fun _ _ i _=>xs.length - (intOf i).toNat)
 case atStart=>exact ⟨0,0,by omega,rfl,rfl,HR0,hb0⟩
 case round =>
  clear hb0 HR0
  obtain ⟨k,l,hk,rfl,rfl,HR,hw⟩:=hrel
  have hk0:(0:Int)<=(k:Int):=by omega
  by_cases hlt:k<xs.length
  ·have hk1:(k:Int)<(xs.length:Int):=by omega
   have HS:=fA (zNF l xs hlt)
   obtain ⟨b,off,rfl,blt,c0,c1⟩:=zCU (HI.out.below hw) hlt
   generalize (xs[k]'hlt)=x at *
   obtain ⟨x1,x2⟩:=x
   simp only at c0 c1 HS
   have HM:=fA (fun W=>HMA.out x1 x2 W)
   have hal:=wA wr (.cells #[x1,x2] 173)
   have gX:=rB wr (.cells #[x1,x2] 173)
   have hw0:=hw.trans (hal.mono hw.size)
   generalize zGM (x1,x2)=bo at *
   cases bo with
   | false =>
    have HZ:jC (ok=false):=fA (by rw [<- HR.out,HS.out];rfl)
    go_wp2_with (go_at_call 131;refine (HM.out _).mono ?_;rintro e w1 ⟨rfl,hb1⟩;have g1:=kA hb1 gX;have hw1:=hw0.trans (hb1.mono hw0.size);obtain ⟨d0,d1,_⟩:=nJ g1)
    have hys:=HY2.out HZ.out
    subst hys
    go_ret
    exact ⟨none,0,rfl,nB _ _ _ _,hw1⟩
   | true =>
    by_cases hl:x1<=l
    ·have HZ:jC (ok=false):=fA (by rw [<- HR.out,HS.out,decide_eq_false (by omega)];rfl)
     go_wp2_with (go_at_call 131;refine (HM.out _).mono ?_;rintro e w1 ⟨rfl,hb1⟩;have g1:=kA hb1 gX;have hw1:=hw0.trans (hb1.mono hw0.size);obtain ⟨d0,d1,_⟩:=nJ g1)
     have hys:=HY2.out HZ.out
     subst hys
     go_ret
     exact ⟨none,0,rfl,nB _ _ _ _,hw1⟩
    ·have HZ:jC (cY x1 (xs.drop (k+1))=ok):=fA (by rw [<- HR.out,HS.out,decide_eq_true (by omega)];rfl)
     go_wp2_with (go_at_call 131;refine (HM.out _).mono ?_;rintro e w1 ⟨rfl,hb1⟩;have g1:=kA hb1 gX;have hw1:=hw0.trans (hb1.mono hw0.size);obtain ⟨d0,d1,_⟩:=nJ g1)
     go_roundw
     case rel=>exact ⟨k+1,x1,by omega,rfl,by go_num,HZ,hw1⟩
     case measure=>simp [intOf];omega
  have hk1:¬ (k:Int)<(xs.length:Int):=by omega
  have HZ:jC (ok=true):=fA (by rw [<- HR.out,fF (by omega)];rfl)
  go_wp2_with (go_at_call 102;refine (HCL.out _ hw).mono ?_;rintro e w2 ⟨A2,c2,rfl,own2,hb2⟩)
  have hys:=HY1.out HZ.out
  subst hys
  go_ret
  exact ⟨A2,c2,rfl,oC own2 hw.size,hw.trans (hb2.mono hw.size)⟩
def bfn (xs:List Bt) (t:Int):Nat -> Int:=fun m=>gK (xs.getD m (0,0)).1 t
theorem zLR (A:Option mB) (c:Nat) (xs:List Bt) (t:Int) (w:uA) (h:yB zU w A c xs):iA prog 132 #[.slice A xs.length c,t] w fun e w'=>e=.returned (.tuple #[.int .i64 (iT (bfn xs t) xs.length),.bool (kL (bfn xs t) xs.length)])/\Below w.heap.size w w':=by
 have HB:=fA (zQc A c xs t w h)
 clear h
 go_enter func132,ntmps132
 go_wp2_with (go_at_call 216;refine HB.out.mono ?_;rintro e w1 ⟨rfl,hb1⟩)
 go_ret2
 exact ⟨rfl,hb1⟩
def jX (x:Rp) (y1 y2 y3:Int):Bool := !x.2.2.2.1 && (decide (x.1=y1) && (decide (x.2.1=y2) && decide (x.2.2.1=y3)))
theorem zHZ (x1 x2 x3 y1 y2 y3 : Int) (x4 x5 : Bool) (a : Option mB) (n cc : Nat) (w : uA) : iA prog 136 #[.agg #[x1, x2, .int .u32 x3, .bool x4, .bool x5], .agg #[y1, y2, .int .u32 y3, .slice a n cc]] w fun e w' => e = .returned (.bool (jX (x1, x2, x3, x4, x5) y1 y2 y3)) /\ Below w.heap.size w w' := by
 have hal:=yI w (.cells #[x1,x2,.int .u32 x3,.bool x4,.bool x5] 124) (.cells #[y1,y2,.int .u32 y3,.slice a n cc] 65)
 unfold jX
 simp only
 cases x4 with
 | true =>
  go_enter func136,ntmps136
  go_wp2
  go_ret
  exact ⟨bC (by simp),hal⟩
 | false =>
  by_cases h1:x1=y1
  ·subst h1
   by_cases h2:x2=y2
   ·subst h2
    go_enter func136,ntmps136
    go_wp2
    go_ret
    exact ⟨bC (by simp;rfl),hal⟩
   ·go_enter func136,ntmps136
    go_wp2
    go_ret
    exact ⟨bC (by simp [h2]),hal⟩
  ·go_enter func136,ntmps136
   go_wp2
   go_ret
   exact ⟨bC (by simp [h1]),hal⟩
end Go.Proofs.YtogbpifcmhafkaaGreat
