/-
 Part PW of the proof.
-/
import Derived.Test.YtogbpifcmhafkaaGreatPQ
import Derived.Test.YtogbpifcmhafkaaGreatPS
import Derived.Laws.ComplexArith
open Bool renaming and_eq_true->kC
open Go renaming Calls->iA,Value->uB,World->uA,cSumBits->zAU,floatOfInt->pK,run_complex_sum->yU
open Go.Calls renaming quiet_of_same->uF
open Go.FloatKind renaming format->rI
open Go.Lib renaming hid->fA
open Go.Proofs.Tryz renaming func316->zAf,ntmps316->oV
open Go.RowKit renaming Hid->jC
open Go.World renaming ownsRow_nil->nB
open Int renaming le_refl->iS
open List renaming getD_eq_getElem?_getD->pB,getElem_mem->wC,length_append->kB,take_of_length_le->zC
open Nat renaming le_refl->mA,le_trans->pA
open Option renaming some->yA
namespace Go.Proofs.YtogbpifcmhafkaaGreat
open Go.RowKit Tryz
open Go.Lib(hid)
set_option linter.unusedVariables false
set_option linter.unusedSimpArgs false
set_option maxRecDepth 100000
set_option maxHeartbeats 16000000
def zCT (a b:Nat × Nat):Bool:=if (rI .f64).order a.1 b.1 != yA .eq then (rI .f64).order a.1 b.1 == yA .lt else (rI .f64).order a.2 b.2 == yA .lt
theorem zJu (a b:Nat × Nat) (w:uA):iA prog 208 #[.complex .f64 a.1 a.2,.complex .f64 b.1 b.2] w fun e w'=>e=.returned (.bool (zCT a b))/\w'=w:=by
 obtain ⟨a1,a2⟩:=a
 obtain ⟨b1,b2⟩:=b
 unfold zCT
 simp only
 generalize hr:(rI .f64).order a1 b1=r
 generalize hs:(rI .f64).order a2 b2=s
 cases hc:(r != yA .eq) with
 | true =>
  rw [if_pos rfl]
  go_enter func208,ntmps208
  go_wp2
  go_ret
  exact ⟨rfl,rfl⟩
 | false =>
  rw [if_neg (by decide)]
  go_enter func208,ntmps208
  go_wp2
  go_ret
  exact ⟨rfl,rfl⟩
def zFq (x:Nd) (loads:List Ld):Int:=min (kF loads x.1) x.2.2.1
theorem f_old (n:Int) (h0:0<=n) (h1:n<=16):zAU .add .f64 0 (pK .f64 n) 4607182418800017408 0=yA (4607182418800017408,pK .f64 n):=by
 have:∀ k:Fin 17,zAU .add .f64 0 (pK .f64 ((k:Nat):Int)) 4607182418800017408 0=yA (4607182418800017408,pK .f64 ((k:Nat):Int)):=by decide +kernel
 have h:=this ⟨n.toNat,by omega⟩
 simp only at h
 rw [Int.toNat_of_nonneg h0] at h
 exact h
def zOi (l:List (Int × uB)) (k:Int):Bool:=l.any fun p=>decide (p.1=k)
def zCQ (l:List (Int × uB)):Prop:=∀ p ∈ l,p.2=.bool true
theorem zEO:∀ (l:List (Int × uB)) (k:Int),zCQ l -> (yT l k).getD (.bool false)=.bool (zOi l k)
 | [],_,_=>rfl
 | p :: l, k, h => by
  unfold yT zOi
  rw [List.any_cons]
  by_cases e:p.1=k
  ·rw [if_pos e,decide_eq_true e,h p (by simp)];rfl
  ·rw [if_neg e,decide_eq_false e,Bool.false_or]
   exact zEO l k (fun q hq=>h q (List.mem_cons_of_mem _ hq))
theorem zPl (ns:List Nd) (ids:List Int):zCQ (zHv ns ids):=by
 unfold zHv
 suffices H:∀ (l:List (Int × uB)),zCQ l -> zCQ (ids.foldl (zRW ns) l) from H [] (fun p h=>by cases h)
 induction ids with
 | nil=>intro l h;exact h
 | cons x xs ih =>
  intro l h
  refine ih _ ?_
  unfold zRW
  split
  ·intro p hp
   rcases List.mem_cons.mp hp with rfl | hp
   ·rfl
   ·exact h p hp
  ·exact h
def uY (x:Nd) (loads:List Ld) (old:List (Int × uB)):Nat × Nat:=(if zOi old x.2.1 then 4607182418800017408 else 0,pK .f64 (zFq x loads))
theorem zNk (x:Nd) (A:Option Addr) (c:Nat) (loads:List Ld) (M n:Nat) (old:List (Int × uB)) (w:uA) (h:yB zV w A c loads) (hM:uH w M n old) (ht:zCQ old) (hx:fZ x=true) (hp:0<=kF loads x.1):iA prog 206 #[.agg (qH x).toArray,.slice A loads.length c,.map (yA M)] w fun e w'=>e=.returned (.complex .f64 (uY x loads old).1 (uY x loads old).2)/\Below w.heap.size w w':=by
 obtain ⟨x1,x2,x3,x4⟩:=x
 unfold fZ btw at hx
 simp only [kC,decide_eq_true_eq] at hx
 have hal:=wA w (.cells #[x1,x2,x3,x4] 207)
 have gB:=rB w (.cells #[x1,x2,x3,x4] 207)
 have HL:jC (∀ W,Below w.heap.size w W -> iA prog 125 #[.slice A loads.length c,x1] W fun e w'=>e=.returned (.int .i64 (kF loads x1))/\Below W.heap.size W w'):=fA fun W hb=>eQ A c loads x1 W (h.below hb)
 have HLK:jC (∀ W,Below w.heap.size w W -> (Instr.lookup 153 (.map (yA M)) (.int .i64 x2) false).run prog W=.ok (.bool (zOi old x2)) W):=fA fun W hb=>by
  have hm:IntKind.i64.min=-9223372036854775808:=by decide
  have:=(hM.below hb).look underlying153 (z:=.bool false) (by kernel_rfl) x2 (by simp [Lit.wf,hm];omega)
  rw [zEO _ _ ht] at this
  exact this
 have HFO:=fA (f_old (zFq (x1,x2,x3,x4) loads) (by unfold zFq;simp only at hp ⊢;omega) (by unfold zFq;simp only;omega))
 unfold uY
 unfold zFq at HFO ⊢
 simp only at HFO ⊢
 clear h hM ht hp hx
 generalize kF loads x1=l at *
 generalize zOi old x2=r at *
 show iA prog 206 #[.agg #[x1,x2,x3,x4],.slice A loads.length c,.map (yA M)] w _
 cases r with
 | true =>
  rw [if_pos rfl]
  go_enter func206,ntmps206
  go_wp2_with fail
  go_region_held3 (fun W=>W.cell? ⟨w.heap.size,0,none⟩=yA (.int .i64 x1)/\W.cell? ⟨w.heap.size,1,none⟩=yA (.int .i64 x2)/\W.cell? ⟨w.heap.size,2,none⟩=yA (.int .i64 x3)) (first | exact ⟨jA gB 0,jA gB 1,jA gB 2⟩ | exact ⟨m0,m1,m2⟩) ((go_at_call 125;refine (HL.out _ hal.drew).mono ?_;rintro e w1 ⟨rfl,hb1⟩;have hb:=hal.drew.trans (hb1.mono hal.size);have HL1:=HLK.out _ hb;have g1:=kA hb1 (iB gB);have m1:=jA g1 1;have m2:=jA g1 2;have m0:=jA g1 0))
  have hsum:=fun W=>yU (P:=prog) W .add (.inl rfl) 298 .f64 _ _ _ _ _ _ HFO.out
  go_wp2
  go_ret
  exact ⟨rfl,hb⟩
 | false =>
  rw [if_neg (by decide)]
  go_enter func206,ntmps206
  go_wp2_with fail
  go_region_held3 (fun W=>W.cell? ⟨w.heap.size,0,none⟩=yA (.int .i64 x1)/\W.cell? ⟨w.heap.size,1,none⟩=yA (.int .i64 x2)/\W.cell? ⟨w.heap.size,2,none⟩=yA (.int .i64 x3)) (first | exact ⟨jA gB 0,jA gB 1,jA gB 2⟩ | exact ⟨m0,m1,m2⟩) ((go_at_call 125;refine (HL.out _ hal.drew).mono ?_;rintro e w1 ⟨rfl,hb1⟩;have hb:=hal.drew.trans (hb1.mono hal.size);have HL1:=HLK.out _ hb;have g1:=kA hb1 (iB gB);have m1:=jA g1 1;have m2:=jA g1 2;have m0:=jA g1 0))
  -- := fun W => yU (P := prog) W .add (.inl rfl) 298 .f64 _ _ _ _ _ _ HFO.out
  go_wp2
  go_ret
  exact ⟨rfl,hb⟩
def zKw (ns:List Nd) (alive:List Int) (loads:List Ld) (hs:List Int) (id:Int):Bool:=(kJ ns id).2 && decide ((kJ ns id).1.2.2.2=0) && ctn alive id && !ctn hs id && decide (kF loads id<(kJ ns id).1.2.2.1)
theorem zOI (A B C D : Option Addr) (a b c d : Nat) (ns : List Nd) (alive : List Int) (loads : List Ld) (hs : List Int) (id : Int) (w : uA) (h : yB qH w A a ns) (h2 : yB kG w B b alive) (h3 : yB zV w C c loads) (h4 : yB kG w D d hs) : iA prog 207 #[.slice A ns.length a, .slice B alive.length b, .slice C loads.length c, .slice D hs.length d, id] w fun e w' => e = .returned (.bool (zKw ns alive loads hs id)) /\ Below w.heap.size w w' := by
 have HF:=fA (rS A a ns id w h)
 have HA:jC (∀ W,Below w.heap.size w W -> iA prog 68 #[.slice B alive.length b,id] W fun e w'=>e=.returned (.bool (ctn alive id))/\w'=W):=fA fun W hb=>pQ B b alive id W (h2.below hb)
 have HH:jC (∀ W,Below w.heap.size w W -> iA prog 68 #[.slice D hs.length d,id] W fun e w'=>e=.returned (.bool (ctn hs id))/\w'=W):=fA fun W hb=>pQ D d hs id W (h4.below hb)
 have HL:jC (∀ W,Below w.heap.size w W -> iA prog 125 #[.slice C loads.length c,id] W fun e w'=>e=.returned (.int .i64 (kF loads id))/\Below W.heap.size W w'):=fA fun W hb=>eQ C c loads id W (h3.below hb)
 unfold zKw
 clear h h2 h3 h4
 generalize kJ ns id=r at *
 obtain ⟨⟨x1,x2,x3,x4⟩,fd⟩:=r
 simp only at HF ⊢
 generalize ctn alive id=b1 at *
 generalize ctn hs id=b2 at *
 generalize kF loads id=l at *
 cases fd with
 | true =>
  by_cases hx4:x4=0
  ·subst hx4
   cases b1 with
   | true =>
    cases b2 with
    | false =>
     go_enter func207,ntmps207
     go_wp2_with (go_at_call 241;refine HF.out.mono ?_;rintro e w1 ⟨rfl,hb1⟩;have gB:=rB w1 (.cells #[x1,x2,x3,.int .i64 0] 207);have hal:=hb1.alloc hb1.size (.cells #[x1,x2,x3,.int .i64 0] 207))
     go_wp2_with fail
     go_region_held3 (fun W=>W.cell? ⟨w1.heap.size,2,none⟩=yA (.int .i64 x3)/\W.cell? ⟨w1.heap.size,3,none⟩=yA (.int .i64 0)) (first | exact ⟨jA gB 2,jA gB 3⟩ | exact ⟨m2,m3⟩) (first
      | ((go_at_call 68;(with_reducible refine (HA.out _ hal.drew).mono ?_);rintro e wx ⟨rfl,hx⟩;subst hx))
      | ((go_at_call 68;(with_reducible refine (HH.out _ hal.drew).mono ?_);rintro e wx ⟨rfl,hx⟩;subst hx))
      | ((go_at_call 125;(with_reducible refine (HL.out _ hal.drew).mono ?_);rintro e w2 ⟨rfl,hb2⟩;have g2:=kA hb2 (iB gB);have m2:=jA g2 2;have m3:=jA g2 3)))
     go_wp2
     go_ret
     refine ⟨bC (by simp),?_⟩
     exact hal.drew.trans (hb2.mono hal.size)
    | true =>
     go_enter func207,ntmps207
     go_wp2_with (go_at_call 241;refine HF.out.mono ?_;rintro e w1 ⟨rfl,hb1⟩;have gB:=rB w1 (.cells #[x1,x2,x3,.int .i64 0] 207);have hal:=hb1.alloc hb1.size (.cells #[x1,x2,x3,.int .i64 0] 207))
     go_wp2_with fail
     have e3:(w1.alloc (.cells #[x1,x2,x3,.int .i64 0] 207)).cell? ⟨w1.heap.size,3,none⟩=yA (.int .i64 0):=jA gB 3
     go_quiet (first | (go_at_call 68;exact uF (HA.out _ (Below.many hal _))) | (go_at_call 68;exact uF (HH.out _ (Below.many hal _))))
     go_wp2
     go_ret
     refine ⟨bC (by simp),?_⟩
     exact Below.many hal _
   | false =>
    go_enter func207,ntmps207
    go_wp2_with (go_at_call 241;refine HF.out.mono ?_;rintro e w1 ⟨rfl,hb1⟩;have gB:=rB w1 (.cells #[x1,x2,x3,.int .i64 0] 207);have hal:=hb1.alloc hb1.size (.cells #[x1,x2,x3,.int .i64 0] 207))
    go_wp2_with fail
    have e3:(w1.alloc (.cells #[x1,x2,x3,.int .i64 0] 207)).cell? ⟨w1.heap.size,3,none⟩=yA (.int .i64 0):=jA gB 3
    go_quiet (first | (go_at_call 68;exact uF (HA.out _ (Below.many hal _))) | (go_at_call 68;exact uF (HH.out _ (Below.many hal _))))
    go_wp2
    go_ret
    refine ⟨bC (by simp),?_⟩
    exact Below.many hal _
  ·go_enter func207,ntmps207
   go_wp2_with (go_at_call 241;refine HF.out.mono ?_;rintro e w1 ⟨rfl,hb1⟩;have gB:=rB w1 (.cells #[x1,x2,x3,x4] 207);have hal:=hb1.alloc hb1.size (.cells #[x1,x2,x3,x4] 207))
   go_wp2_with fail
   have e3:(w1.alloc (.cells #[x1,x2,x3,x4] 207)).cell? ⟨w1.heap.size,3,none⟩=yA (.int .i64 x4):=jA gB 3
   go_quiet (first | (go_at_call 68;exact uF (HA.out _ (Below.many hal _))) | (go_at_call 68;exact uF (HH.out _ (Below.many hal _))))
   go_wp2
   go_ret
   refine ⟨bC (by simp [hx4]),?_⟩
   exact Below.many hal _
 | false =>
  go_enter func207,ntmps207
  go_wp2_with (go_at_call 241;refine HF.out.mono ?_;rintro e w1 ⟨rfl,hb1⟩;have gB:=rB w1 (.cells #[x1,x2,x3,x4] 207);have hal:=hb1.alloc hb1.size (.cells #[x1,x2,x3,x4] 207))
  go_wp2_with fail
  have e3:(w1.alloc (.cells #[x1,x2,x3,x4] 207)).cell? ⟨w1.heap.size,3,none⟩=yA (.int .i64 x4):=jA gB 3
  go_quiet (first | (go_at_call 68;exact uF (HA.out _ (Below.many hal _))) | (go_at_call 68;exact uF (HH.out _ (Below.many hal _))))
  go_wp2
  go_ret
  refine ⟨bC (by simp),?_⟩
  exact Below.many hal _
def zLM {α:Type} (p:α -> Bool) (xs:List α):Nat:=(xs.filter p).length
theorem zFM {α:Type} (p:α -> Bool) (xs:List α) {k:Nat} (hk:k<xs.length):zLM p (xs.take (k+1))=zLM p (xs.take k)+(if p (xs[k]'hk) then 1 else 0):=by
 unfold zLM
 rw [wI p xs hk]
 split <;> simp
theorem zLj {α:Type} (p:α -> Bool) (xs:List α):zLM p xs<=xs.length:=List.length_filter_le _ _
def zN (xs:List Le) (id:Int):Nat:=zLM (fun x:Le=>decide (x.2.2.1=id)) xs
def zQ (xs:List Le) (id:Int):Nat:=zLM (fun x:Le=>decide (x.2.2.2.1=id)) xs
abbrev fN (n:Nat):Nat:=pK .f64 (n:Int)
theorem zNZ:fN 0=0:=by decide +kernel
theorem zRa (n:Nat) (h:n<=100):floatBits .add .f64 (fN n) 4607182418800017408=yA (fN (n+1)):=by
 have:∀ k:Fin 101,floatBits .add .f64 (fN k.val) 4607182418800017408=yA (fN (k.val+1)):=by decide +kernel
 exact this ⟨n,by omega⟩
theorem zNY (n:Nat) (h:n<=100):floatBits .add .f64 (fN n) 0=yA (fN n):=by
 have:∀ k:Fin 101,floatBits .add .f64 (fN k.val) 0=yA (fN k.val):=by decide +kernel
 exact this ⟨n,by omega⟩
theorem zRw (n:Nat) (h:n<=100):floatToIntVal .f64 (fN n) .i64=yA (n:Int):=by
 have:∀ k:Fin 101,floatToIntVal .f64 (fN k.val) .i64=yA ((k.val:Nat):Int):=by decide +kernel
 exact this ⟨n,by omega⟩
theorem c_re (a b:Nat) (h:a<=100) (h2:b<=100):zAU .add .f64 (fN a) (fN b) 4607182418800017408 0=yA (fN (a+1),fN b):=by
 unfold zAU
 rw [zRa a h,zNY b h2]
 rfl
theorem c_im (a b:Nat) (h:a<=100) (h2:b<=100):zAU .add .f64 (fN a) (fN b) 0 4607182418800017408=yA (fN a,fN (b+1)):=by
 unfold zAU
 rw [zRa b h2,zNY a h]
 rfl
theorem zDU (A : Option Addr) (c : Nat) (xs : List Le) (id : Int) (w : uA) (h : yB vU w A c xs) (hl : xs.length <= 100) : iA prog 246 #[.slice A xs.length c, id] w fun e w' => e = .returned (.complex .f64 (fN (zN xs id)) (fN (zQ xs id))) /\ Below w.heap.size w w' := by
 have HI:=fA h
 have hb0:=xC w
 have HZ:=fA zNZ
 obtain ⟨fz,hfz⟩:∃ f:Nat -> Nat,f=fN:=⟨_,rfl⟩
 have HS1:jC (∀ a b,a<=100 -> b<=100 -> ∀ W,(binOp .add 298 (.complex .f64 (fz a) (fz b)) (.complex .f64 4607182418800017408 0)).run prog W=.ok (.complex .f64 (fz (a+1)) (fz b)) W):=fA fun a b ha hb W=>by subst hfz;exact yU W .add (.inl rfl) _ .f64 _ _ _ _ _ _ (c_re a b ha hb)
 have HS2:jC (∀ a b,a<=100 -> b<=100 -> ∀ W,(binOp .add 298 (.complex .f64 (fz a) (fz b)) (.complex .f64 0 4607182418800017408)).run prog W=.ok (.complex .f64 (fz a) (fz (b+1))) W):=fA fun a b ha hb W=>by subst hfz;exact yU W .add (.inl rfl) _ .f64 _ _ _ _ _ _ (c_im a b ha hb)
 have hz0:fz 0=0:=by rw [hfz];exact zNZ
 show iA prog 246 #[.slice A xs.length c,id] w fun e w'=>e=.returned (.complex .f64 (pK .f64 ((zN xs id:Nat):Int)) (pK .f64 ((zQ xs id:Nat):Int)))/\Below w.heap.size w w'
 have HFZ:jC (∀ n:Nat,pK .f64 (n:Int)=fz n):=fA fun n=>by rw [hfz]
 rw [HFZ.out,HFZ.out]
 clear h hfz
 have HZ0:=fA hz0
 clear hz0
 have HN1:jC (∀ k (hk:k<xs.length),zN (xs.take (k+1)) id=zN (xs.take k) id+(if decide ((xs[k]'hk).2.2.1=id) then 1 else 0)):=fA fun k hk=>zFM _ xs hk
 have HN2:jC (∀ k (hk:k<xs.length),zQ (xs.take (k+1)) id=zQ (xs.take k) id+(if decide ((xs[k]'hk).2.2.2.1=id) then 1 else 0)):=fA fun k hk=>zFM _ xs hk
 go_enter func246,ntmps246
 go_wp2
 go_loopw [5,7,10] (fun v5 v7 i wr=>∃ (k a b:Nat),k<=xs.length/\a<=k/\b<=k/\v5=.complex .f64 (fz a) (fz b)/\i=.int .i64 (k:Int)/\jC (zN (xs.take k) id=a/\zQ (xs.take k) id=b)/\Below w.heap.size w wr) (fun _ _ i _=>xs.length - (intOf i).toNat)
 case atStart=>exact ⟨0,0,0,by omega,by omega,by omega,by rw [HZ0.out],rfl,fA ⟨rfl,rfl⟩,hb0⟩
 case round =>
  clear hb0
  obtain ⟨k,a,b,hk,ha,hb,rfl,rfl,HX,hw⟩:=hrel
  have hk0:(0:Int)<=(k:Int):=by omega
  by_cases hlt:k<xs.length
  ·have hk1:(k:Int)<(xs.length:Int):=by omega
   have hn1:=HN1.out k hlt
   have hn2:=HN2.out k hlt
   rw [HX.out.1] at hn1
   rw [HX.out.2] at hn2
   obtain ⟨b1,off,rfl,blt,d0,d1,d2,d3,d4⟩:=zBd (HI.out.below hw) hlt
   generalize (xs[k]'hlt)=x at *
   obtain ⟨x1,x2,x3,x4,x5⟩:=x
   simp only at d0 d1 d2 d3 d4 hn1 hn2
   have hal:=wA wr (.cells #[x1,x2,x3,x4,x5] 176)
   have gX:=rB wr (.cells #[x1,x2,x3,x4,x5] 176)
   have hw0:=hw.trans (hal.mono hw.size)
   have e2:(wr.alloc (.cells #[x1,x2,x3,x4,x5] 176)).cell? ⟨wr.heap.size,2,none⟩=yA (.int .i64 x3):=jA gX 2
   have e3:(wr.alloc (.cells #[x1,x2,x3,x4,x5] 176)).cell? ⟨wr.heap.size,3,none⟩=yA (.int .i64 x4):=jA gX 3
   have hs1:=HS1.out a b (by omega) (by omega)
   have hs2:=HS2.out a b (by omega) (by omega)
   have hs3:=HS2.out (a+1) b (by omega) (by omega)
   have HC3:=fA hn1
   have HC4:=fA hn2
   clear hn1 hn2
   go_upto_region 5 with fail
   generalize wr.alloc (.cells #[x1,x2,x3,x4,x5] 176)=W2 at *
   by_cases h3:x3=id
   ·subst h3
    by_cases h4:x4=x3
    ·subst h4
     go_wp2
     go_roundw
     case rel=>exact ⟨k+1,a+1,b+1,by omega,by omega,by omega,rfl,by go_num,fA ⟨by rw [HC3.out];simp,by rw [HC4.out];simp⟩,hw0⟩
     case measure=>simp [intOf];omega
    ·go_wp2
     go_roundw
     case rel=>exact ⟨k+1,a+1,b,by omega,by omega,by omega,rfl,by go_num,fA ⟨by rw [HC3.out];simp [h4],by rw [HC4.out];simp [h4]⟩,hw0⟩
     case measure=>simp [intOf];omega
   ·by_cases h4:x4=id
    ·subst h4
     go_wp2
     go_roundw
     case rel=>exact ⟨k+1,a,b+1,by omega,by omega,by omega,rfl,by go_num,fA ⟨by rw [HC3.out];simp [h3],by rw [HC4.out];simp [h3]⟩,hw0⟩
     case measure=>simp [intOf];omega
    ·go_wp2
     go_roundw
     case rel=>exact ⟨k+1,a,b,by omega,by omega,by omega,rfl,by go_num,fA ⟨by rw [HC3.out];simp [h3,h4],by rw [HC4.out];simp [h3,h4]⟩,hw0⟩
     case measure=>simp [intOf];omega
  have hk1:¬ (k:Int)<(xs.length:Int):=by omega
  have hke:k=xs.length:=by omega
  subst hke
  rw [zC (mA _)] at HX
  go_wp2
  go_ret
  rw [HX.out.1,HX.out.2]
  exact ⟨rfl,hw⟩
theorem zLN (A:Option Addr) (c:Nat) (xs:List Le) (id:Int) (w:uA) (h:yB vU w A c xs) (hl:xs.length<=100):iA prog 315 #[.slice A xs.length c,id] w fun e w'=>e=.returned (.tuple #[.int .i64 (zN xs id:Int),.int .i64 (zQ xs id:Int)])/\Below w.heap.size w w':=by
 have HT:=fA (zDU A c xs id w h hl)
 have hs1:zN xs id<=100:=pA (zLj _ _) hl
 have hs2:zQ xs id<=100:=pA (zLj _ _) hl
 generalize zN xs id=a at *
 generalize zQ xs id=b at *
 have HC:jC (∀ n,n<=100 -> ∀ W,(convert 340 3 (.float .f64 (fN n))).run prog W=.ok (.int .i64 (n:Int)) W):=fA fun n hn W=>run_convert_float_int W _ _ .f64 .i64 (fN n) (n:Int) (by kernel_rfl) underlying3 (zRw n hn)
 have hc1:=HC.out a hs1
 have hc2:=HC.out b hs2
 generalize fN a=x at *
 generalize fN b=y at *
 clear h
 go_enter func315,ntmps315
 go_wp2_with (go_at_call 246;refine HT.out.mono ?_;rintro e w1 ⟨rfl,hb1⟩)
 go_ret2
 exact ⟨rfl,hb1⟩
theorem zGn (n:Int) (w:uA):iA prog 356 #[n] w fun e w'=>e=.returned (.bool (btw n 1 16))/\w'=w:=by
 unfold btw
 by_cases h:1<=n
 all_goals (
  go_enter func356,ntmps356
  go_wp2
  go_ret
  exact ⟨bC (by simp [h];try omega),rfl⟩)
def zDW (x:Le):Bool:=btw x.2.2.1 1 16 && btw x.2.2.2.1 1 16 && !decide (x.2.2.1=x.2.2.2.1) && decide (1<=x.1) && decide (1<=x.2.1) && decide (0<=x.2.2.2.2) && decide (x.2.2.2.2<=1099511627776)
theorem zMt (x1 x2 x3 x4 x5:Int) (w:uA):iA prog 316 #[.agg #[x1,x2,x3,x4,x5]] w fun e w'=>e=.returned (.bool (zDW (x1,x2,x3,x4,x5)))/\Below w.heap.size w w':=by
 have hal:=wA w (.cells #[x1,x2,x3,x4,x5] 176)
 have H1:=fA (fun W=>zGn x3 W)
 have H2:=fA (fun W=>zGn x4 W)
 unfold zDW
 simp only
 generalize btw x3 1 16=b1 at *
 generalize btw x4 1 16=b2 at *
 cases b1 with
 | false =>
  go_enter zAf,oV
  go_wp2_with (first | (go_at_call 356;(with_reducible refine (H1.out _).mono ?_);rintro e wx ⟨rfl,hx⟩;subst hx) | (go_at_call 356;(with_reducible refine (H2.out _).mono ?_);rintro e wx ⟨rfl,hx⟩;subst hx))
  go_ret
  exact ⟨bC (by simp),hal⟩
 | true =>
 cases b2 with
 | false =>
  go_enter zAf,oV
  go_wp2_with (first | (go_at_call 356;(with_reducible refine (H1.out _).mono ?_);rintro e wx ⟨rfl,hx⟩;subst hx) | (go_at_call 356;(with_reducible refine (H2.out _).mono ?_);rintro e wx ⟨rfl,hx⟩;subst hx))
  go_ret
  exact ⟨bC (by simp),hal⟩
 | true =>
 by_cases h3:x3=x4
 ·subst h3
  go_enter zAf,oV
  go_wp2_with (first | (go_at_call 356;(with_reducible refine (H1.out _).mono ?_);rintro e wx ⟨rfl,hx⟩;subst hx) | (go_at_call 356;(with_reducible refine (H2.out _).mono ?_);rintro e wx ⟨rfl,hx⟩;subst hx))
  go_ret
  exact ⟨bC (by simp),hal⟩
 have h3':decide (x3=x4)=false:=decide_eq_false h3
 by_cases h1:1<=x1
 case neg =>
  have h1':decide (1<=x1)=false:=decide_eq_false h1
  go_enter zAf,oV
  go_wp2_with (first | (go_at_call 356;(with_reducible refine (H1.out _).mono ?_);rintro e wx ⟨rfl,hx⟩;subst hx) | (go_at_call 356;(with_reducible refine (H2.out _).mono ?_);rintro e wx ⟨rfl,hx⟩;subst hx))
  go_ret
  exact ⟨bC (by simp [h3,h1];try omega),hal⟩
 by_cases h2:1<=x2
 case neg =>
  have h2':decide (1<=x2)=false:=decide_eq_false h2
  go_enter zAf,oV
  go_wp2_with (first | (go_at_call 356;(with_reducible refine (H1.out _).mono ?_);rintro e wx ⟨rfl,hx⟩;subst hx) | (go_at_call 356;(with_reducible refine (H2.out _).mono ?_);rintro e wx ⟨rfl,hx⟩;subst hx))
  go_ret
  exact ⟨bC (by simp [h3,h1,h2];try omega),hal⟩
 by_cases h5:0<=x5
 case neg =>
  have h5':decide (0<=x5)=false:=decide_eq_false h5
  go_enter zAf,oV
  go_wp2_with (first | (go_at_call 356;(with_reducible refine (H1.out _).mono ?_);rintro e wx ⟨rfl,hx⟩;subst hx) | (go_at_call 356;(with_reducible refine (H2.out _).mono ?_);rintro e wx ⟨rfl,hx⟩;subst hx))
  go_ret
  exact ⟨bC (by simp [h3,h1,h2,h5];try omega),hal⟩
 by_cases h6:x5<=1099511627776
 case neg =>
  have h6':decide (x5<=1099511627776)=false:=decide_eq_false h6
  go_enter zAf,oV
  go_wp2_with (first | (go_at_call 356;(with_reducible refine (H1.out _).mono ?_);rintro e wx ⟨rfl,hx⟩;subst hx) | (go_at_call 356;(with_reducible refine (H2.out _).mono ?_);rintro e wx ⟨rfl,hx⟩;subst hx))
  go_ret
  exact ⟨bC (by simp [h3,h1,h2,h5,h6];try omega),hal⟩
 case pos =>
  have h6':decide (x5<=1099511627776)=true:=decide_eq_true h6
  go_enter zAf,oV
  go_wp2_with (first | (go_at_call 356;(with_reducible refine (H1.out _).mono ?_);rintro e wx ⟨rfl,hx⟩;subst hx) | (go_at_call 356;(with_reducible refine (H2.out _).mono ?_);rintro e wx ⟨rfl,hx⟩;subst hx))
  go_ret
  exact ⟨bC (by simp [h3,h1,h2,h5,h6];try omega),hal⟩
theorem uR (xs:List Ld) (node:Int) (h:∀ x ∈ xs,0<=x.2):0<=kF xs node:=by
 unfold kF
 split
 ·exact iS _
 ·by_cases hk:(bE (fun x:Ld=>decide (x.1=node)) xs 0).toNat<xs.length
  ·rw [pB,List.getElem?_eq_getElem hk,Option.getD_some]
   exact h _ (wC hk)
  ·rw [pB,List.getElem?_eq_none (by omega),Option.getD_none]
   exact iS _
theorem zGk:∀ (l:Int) (xs:List Nd),jH l xs=true -> ∀ x ∈ xs,fZ x=true
 | _,[],_,x,h=>by cases h
 | l, y :: ys, h, x, hx => by
  unfold jH at h
  simp only [kC] at h
  rcases List.mem_cons.mp hx with rfl | hx
  ·exact h.1.1
  ·exact zGk _ ys h.2 x hx
abbrev zPV:=Int × (Nat × Nat) × Bool
def zRO (ns:List Nd) (alive:List Int) (loads:List Ld) (hs:List Int) (s:zPV) (x:Nd):zPV:=if zKw ns alive loads hs x.1 && (!s.2.2 || zCT (uY x loads (zHv ns hs)) s.2.1) then (x.1,uY x loads (zHv ns hs),true) else s
def zPH (ns:List Nd) (alive:List Int) (loads:List Ld) (hs:List Int) (l:List Nd):zPV:=l.foldl (zRO ns alive loads hs) (0,(0,0),false)
def yM (ns:List Nd) (alive:List Int) (loads:List Ld) (hs:List Int):Int × Bool:=((zPH ns alive loads hs ns).1,(zPH ns alive loads hs ns).2.2)
theorem zPI (ns:List Nd) (alive:List Int) (loads:List Ld) (hs:List Int) (l:List Nd) {k:Nat} (hk:k<l.length):zPH ns alive loads hs (l.take (k+1))=zRO ns alive loads hs (zPH ns alive loads hs (l.take k)) (l[k]'hk):=by
 unfold zPH
 rw [List.take_succ_eq_append_getElem hk,List.foldl_append]
 rfl
theorem zFo (A B C D : Option Addr) (a b c d : Nat) (ns : List Nd) (alive : List Int) (loads : List Ld) (hs : List Int) (w : uA) (h : yB qH w A a ns) (h2 : yB kG w B b alive) (h3 : yB zV w C c loads) (h4 : yB kG w D d hs) (ho : jH 0 ns = true) (hl : ∀ x ∈ loads, 0 <= x.2) : iA prog 122 #[.slice A ns.length a, .slice B alive.length b, .slice C loads.length c, .slice D hs.length d] w fun e w' => e = .returned (.tuple #[.int .i64 (yM ns alive loads hs).1, .bool (yM ns alive loads hs).2]) /\ Below w.heap.size w w' := by
 have HR:=fA (zKI A a ns D d hs w h h4)
 have HT:=zPl ns hs
 have HM:jC (∀ id W,Below w.heap.size w W -> iA prog 207 #[.slice A ns.length a,.slice B alive.length b,.slice C loads.length c,.slice D hs.length d,.int .i64 id] W fun e w'=>e=.returned (.bool (zKw ns alive loads hs id))/\Below W.heap.size W w'):=fA fun id W hb=>zOI A B C D a b c d ns alive loads hs id W (h.below hb) (h2.below hb) (h3.below hb) (h4.below hb)
 have HW:jC (∀ (x:Nd) (M n:Nat) (W:uA),x ∈ ns -> Below w.heap.size w W -> uH W M n (zHv ns hs) -> iA prog 206 #[.agg (qH x).toArray,.slice C loads.length c,.map (yA M)] W fun e w'=>e=.returned (.complex .f64 (uY x loads (zHv ns hs)).1 (uY x loads (zHv ns hs)).2)/\Below W.heap.size W w'):=fA fun x M n W hx hb hm=>zNk x C c loads M n (zHv ns hs) W (h3.below hb) hm HT (zGk 0 ns ho x hx) (uR loads x.1 hl)
 have HI:=fA h
 have hmx:=h.max
 have HS:jC (∀ {k:Nat} (hk:k<ns.length),zPH ns alive loads hs (ns.take (k+1))=zRO ns alive loads hs (zPH ns alive loads hs (ns.take k)) (ns[k]'hk)):=fA fun hk=>zPI ns alive loads hs ns hk
 have HG:jC (∀ s x,zRO ns alive loads hs s x=if zKw ns alive loads hs x.1 && (!s.2.2 || zCT (uY x loads (zHv ns hs)) s.2.1) then (x.1,uY x loads (zHv ns hs),true) else s):=fA fun _ _=>rfl
 unfold yM
 clear h h2 h3 h4 ho hl HT
 generalize zHv ns hs=rk at *
 go_enter func122,ntmps122
 go_wp2_with (go_at_call 205;refine HR.out.mono ?_;rintro e w1 ⟨M,n,rfl,hM,hMl,hb1⟩)
 have HM1:=fA hM
 have hw0:=fA hb1
 have hb0:=xC w1
 clear hM hb1
 go_loopw [11,12,13,15,16,22] (fun v11 v12 v13 v15 v16 i wr=>∃ (k:Nat) (bs:Int) (l1 l2:Nat) (is:Bool),k<=ns.length/\v11=.int .i64 bs/\v12=.complex .f64 l1 l2/\v13=.bool is/\i=.int .i64 (k:Int)/\jC (zPH ns alive loads hs (ns.take k)=(bs,(l1,l2),is))/\Below w1.heap.size w1 wr) (fun _ _ _ _ _ i _=>ns.length - (intOf i).toNat)
 case atStart=>exact ⟨0,0,0,0,false,by omega,rfl,rfl,rfl,rfl,fA rfl,hb0⟩
 case round =>
  clear hb0
  obtain ⟨k,bs,l1,l2,is,hk,rfl,rfl,rfl,rfl,HX,hw⟩:=hrel
  have hk0:(0:Int)<=(k:Int):=by omega
  by_cases hlt:k<ns.length
  ·have hk1:(k:Int)<(ns.length:Int):=by omega
   have hX:=HS.out hlt
   rw [HX.out,HG.out] at hX
   have hwr:=hw0.out.trans (hw.mono hw0.out.size)
   obtain ⟨b1,off,rfl,blt,d0,d1,d2,d3⟩:=pR (HI.out.below hwr) hlt
   have HWX:=fA (fun W (hb:Below w.heap.size w W) (hm:uH W M n rk)=>HW.out (ns[k]'hlt) M n W (wC hlt) hb hm)
   generalize (ns[k]'hlt)=x at *
   generalize uY x loads rk=wt at *
   obtain ⟨wt1,wt2⟩:=wt
   obtain ⟨x1,x2,x3,x4⟩:=x
   simp only at d0 d1 d2 d3 hX HWX
   have HMX:=fA (fun W (hb:Below w.heap.size w W)=>HM.out x1 W hb)
   have HBX:=fA (fun W=>zJu (wt1,wt2) (l1,l2) W)
   generalize zKw ns alive loads hs x1=m at *
   generalize zCT (wt1,wt2) (l1,l2)=bt at *
   simp only at HBX
   have HX2:=fA hX
   clear hX HX
   have hal:=wA wr (.cells #[x1,x2,x3,x4] 207)
   have gB:=rB wr (.cells #[x1,x2,x3,x4] 207)
   have e0:(wr.alloc (.cells #[x1,x2,x3,x4] 207)).cell? ⟨wr.heap.size,0,none⟩=yA (.int .i64 x1):=jA gB 0
   have e1:(wr.alloc (.cells #[x1,x2,x3,x4] 207)).cell? ⟨wr.heap.size,1,none⟩=yA (.int .i64 x2):=jA gB 1
   have e2:(wr.alloc (.cells #[x1,x2,x3,x4] 207)).cell? ⟨wr.heap.size,2,none⟩=yA (.int .i64 x3):=jA gB 2
   have e3:(wr.alloc (.cells #[x1,x2,x3,x4] 207)).cell? ⟨wr.heap.size,3,none⟩=yA (.int .i64 x4):=jA gB 3
   have hblt:=eB gB
   have HWY:jC (∀ W,Below w.heap.size w W -> uH W M n rk -> iA prog 206 #[.agg #[x1,x2,x3,x4],.slice C loads.length c,.map (yA M)] W fun e w'=>e=.returned (.complex .f64 wt1 wt2)/\Below W.heap.size W w'):=HWX
   clear HWX
   cases m with
   | false =>
    go_wp2_with (first
     | (go_at_call 206;refine (HWY.out _ (hwr.trans (hal.mono hwr.size)) ((HM1.out.below hw).alloc _)).mono ?_;rintro e w3 ⟨rfl,hb3⟩;have g3:=kA hb3 gB;have p0:=jA g3 0;have hw3:=hw.trans ((hal.trans (hb3.mono hal.size)).mono hw.size))
     | (go_at_call 207;refine (HMX.out _ (hw0.out.trans (hw3.mono hw0.out.size))).mono ?_;rintro e w4 ⟨rfl,hb4⟩;have g4:=kA hb4 g3;have q0:=jA g4 0;have hw4:=hw3.trans (hb4.mono hw3.size))
     | (go_at_call 208;refine (HBX.out _).mono ?_;rintro e w5 ⟨rfl,h5⟩;subst h5))
    go_roundw
    case rel=>exact ⟨k+1,bs,l1,l2,is,by omega,rfl,rfl,rfl,by go_num,fA (by rw [HX2.out];simp),hw4⟩
    case measure=>simp [intOf];omega
   | true =>
   cases is with
   | false =>
    go_wp2_with (first
     | (go_at_call 206;refine (HWY.out _ (hwr.trans (hal.mono hwr.size)) ((HM1.out.below hw).alloc _)).mono ?_;rintro e w3 ⟨rfl,hb3⟩;have g3:=kA hb3 gB;have p0:=jA g3 0;have hw3:=hw.trans ((hal.trans (hb3.mono hal.size)).mono hw.size))
     | (go_at_call 207;refine (HMX.out _ (hw0.out.trans (hw3.mono hw0.out.size))).mono ?_;rintro e w4 ⟨rfl,hb4⟩;have g4:=kA hb4 g3;have q0:=jA g4 0;have hw4:=hw3.trans (hb4.mono hw3.size))
     | (go_at_call 208;refine (HBX.out _).mono ?_;rintro e w5 ⟨rfl,h5⟩;subst h5))
    go_roundw
    case rel=>exact ⟨k+1,x1,wt1,wt2,true,by omega,rfl,rfl,rfl,by go_num,fA (by rw [HX2.out];simp),hw4⟩
    case measure=>simp [intOf];omega
   | true =>
   cases bt with
   | false =>
    go_wp2_with (first
     | (go_at_call 206;refine (HWY.out _ (hwr.trans (hal.mono hwr.size)) ((HM1.out.below hw).alloc _)).mono ?_;rintro e w3 ⟨rfl,hb3⟩;have g3:=kA hb3 gB;have p0:=jA g3 0;have hw3:=hw.trans ((hal.trans (hb3.mono hal.size)).mono hw.size))
     | (go_at_call 207;refine (HMX.out _ (hw0.out.trans (hw3.mono hw0.out.size))).mono ?_;rintro e w4 ⟨rfl,hb4⟩;have g4:=kA hb4 g3;have q0:=jA g4 0;have hw4:=hw3.trans (hb4.mono hw3.size))
     | (go_at_call 208;refine (HBX.out _).mono ?_;rintro e w5 ⟨rfl,h5⟩;subst h5))
    go_roundw
    case rel=>exact ⟨k+1,bs,l1,l2,true,by omega,rfl,rfl,rfl,by go_num,fA (by rw [HX2.out];simp),hw4⟩
    case measure=>simp [intOf];omega
   | true =>
    go_wp2_with (first
     | (go_at_call 206;refine (HWY.out _ (hwr.trans (hal.mono hwr.size)) ((HM1.out.below hw).alloc _)).mono ?_;rintro e w3 ⟨rfl,hb3⟩;have g3:=kA hb3 gB;have p0:=jA g3 0;have hw3:=hw.trans ((hal.trans (hb3.mono hal.size)).mono hw.size))
     | (go_at_call 207;refine (HMX.out _ (hw0.out.trans (hw3.mono hw0.out.size))).mono ?_;rintro e w4 ⟨rfl,hb4⟩;have g4:=kA hb4 g3;have q0:=jA g4 0;have hw4:=hw3.trans (hb4.mono hw3.size))
     | (go_at_call 208;refine (HBX.out _).mono ?_;rintro e w5 ⟨rfl,h5⟩;subst h5))
    go_roundw
    case rel=>exact ⟨k+1,x1,wt1,wt2,true,by omega,rfl,rfl,rfl,by go_num,fA (by rw [HX2.out];simp),hw4⟩
    case measure=>simp [intOf];omega
  have hk1:¬ (k:Int)<(ns.length:Int):=by omega
  have hke:k=ns.length:=by omega
  subst hke
  rw [zC (mA _)] at HX
  go_wp2
  go_ret2
  rw [HX.out]
  exact ⟨rfl,hw0.out.trans (hw.mono hw0.out.size)⟩
abbrev zKr (a b c d e:Int):Obj:=.cells #[a,b,c,d,e] 176
def zNt (r:List Le × Int) (w:uA) (en:Ending) (w':uA):Prop:=∃ A c,en=.returned (.tuple #[.slice A r.1.length c,r.2])/\w'.ownsRow w.heap.size 176 5 (.slice A r.1.length c) r.1.length (flat vU r.1)/\Below w.heap.size w w'
def jP (xs:List Le) (x:Le) (each all:Int):List Le × Int :=
 if zDW x=false then ([],1) else if 0<=bE (lkey x.1 x.2.2.2.1) xs 0 then ([],6) else if all<=xs.length\/each<=zN xs x.2.2.1\/each<=zQ xs x.2.2.2.1 then ([],7) else (xs ++ [x],0)
theorem zKQ (A:Option Addr) (c:Nat) (xs:List Le) (x1 x2 x3 x4 x5 each all:Int) (w:uA) (h:yB vU w A c xs) (hl:xs.length<=100):iA prog 247 #[.slice A xs.length c,.agg #[x1,x2,x3,x4,x5],.int .i64 each,.int .i64 all] w (zNt (jP xs (x1,x2,x3,x4,x5) each all) w):=by
 have hal:=wA w (zKr x1 x2 x3 x4 x5)
 have gX:=rB w (zKr x1 x2 x3 x4 x5)
 have HC:jC (∀ id W,Below w.heap.size w W -> iA prog 315 #[.slice A xs.length c,.int .i64 id] W fun e w'=>e=.returned (.tuple #[.int .i64 (zN xs id:Int),.int .i64 (zQ xs id:Int)])/\Below W.heap.size W w'):=fA fun id W hb=>zLN A c xs id W (h.below hb) hl
 have HC1:=fA (HC.out x3)
 have HC2:=fA (HC.out x4)
 have HM:=fA (fun W=>zMt x1 x2 x3 x4 x5 W)
 have HF:jC (∀ W,Below w.heap.size w W -> iA prog 257 #[.slice A xs.length c,x1,x4] W fun e w'=>e=.returned (.int .i64 (bE (lkey x1 x4) xs 0))/\Below W.heap.size W w'):=fA fun W hb=>zFV A c xs x1 x4 W (h.below hb)
 have HK:jC (∀ W,Below w.heap.size w W -> iA prog 103 #[.slice A xs.length c] W (mD 176 5 xs.length (flat vU xs) W)):=fA fun W hb=>zQj A c xs.length (flat vU xs) W (h.row.below hb) h.none_ (jD zEK xs) (jF zHc xs) h.max
 have HZ2:jC ((zDW (x1,x2,x3,x4,x5)=false -> jP xs (x1,x2,x3,x4,x5) each all=([],1))/\(zDW (x1,x2,x3,x4,x5)=true -> 0<=bE (lkey x1 x4) xs 0 -> jP xs (x1,x2,x3,x4,x5) each all=([],6))/\(zDW (x1,x2,x3,x4,x5)=true -> bE (lkey x1 x4) xs 0<0 -> (all<=xs.length\/each<=zN xs x3\/each<=zQ xs x4) -> jP xs (x1,x2,x3,x4,x5) each all=([],7))/\(zDW (x1,x2,x3,x4,x5)=true -> bE (lkey x1 x4) xs 0<0 -> (xs.length<all/\zN xs x3<each/\zQ xs x4<each) -> jP xs (x1,x2,x3,x4,x5) each all=(xs ++ [(x1,x2,x3,x4,x5)],0))):=fA (by
  unfold jP
  simp only
  refine ⟨fun h=>by rw [if_pos h],fun h h2=>by rw [if_neg (by simp [h]),if_pos h2],fun h h2 h3=>by rw [if_neg (by simp [h]),if_neg (by omega),if_pos h3],fun h h2 h3=>by rw [if_neg (by simp [h]),if_neg (by omega),if_neg (by omega)]⟩)
 generalize jP xs (x1,x2,x3,x4,x5) each all=r at *
 clear h HC
 generalize zDW (x1,x2,x3,x4,x5)=m at *
 generalize bE (lkey x1 x4) xs 0=v at *
 generalize zN xs x3=s at *
 generalize zQ xs x4=t at *
 generalize zN xs x4=s' at *
 generalize zQ xs x3=t' at *
 go_enter func247,ntmps247
 go_wp2_with (first
  | (go_at_call 315;(with_reducible refine (HC1.out _ hal).mono ?_);rintro e w1 ⟨rfl,hb1⟩;have b1:=hal.trans (hb1.mono hal.size);have g1:=kA hb1 gX;obtain ⟨p0,p1,p2,p3,p4,_⟩:=kN g1;clear HC1)
  | (go_at_call 315;(with_reducible refine (HC2.out _ b1).mono ?_);rintro e w2 ⟨rfl,hb2⟩;have b2:=b1.trans (hb2.mono b1.size);have g2:=kA hb2 g1;obtain ⟨q0,q1,q2,q3,q4,_⟩:=kN g2)
  | (go_at_call 316;(with_reducible refine (HM.out _).mono ?_);rintro e w3 ⟨rfl,hb3⟩;have b3:=b2.trans (hb3.mono b2.size);have g3:=kA hb3 g2;obtain ⟨r0,r1,r2,r3,r4,_⟩:=kN g3)
  | (go_at_call 257;(with_reducible refine (HF.out _ b3).mono ?_);rintro e w4 ⟨rfl,hb4⟩;have b4:=b3.trans (hb4.mono b3.size);have g4:=kA hb4 g3;obtain ⟨s0,s1,s2,s3,s4,_⟩:=kN g4))
 all_goals (try (
  go_ret2
  first
   | (have er:=HZ2.out.1 (by simpa using ‹(!m)=true›);subst er;exact ⟨none,0,rfl,nB _ _ _ _,b3⟩)
   | (have er:=HZ2.out.2.1 (by simpa using ‹(!m)=false›) (by omega);subst er;exact ⟨none,0,rfl,nB _ _ _ _,b4⟩)
   | (have er:=HZ2.out.2.2.1 (by simpa using ‹(!m)=false›) (by omega) (by omega);subst er;exact ⟨none,0,rfl,nB _ _ _ _,b4⟩)))
 go_region_law (first
  | ((try go_simp);go_at_call 103;((with_reducible refine (HK.out _ b4.drew).mono ?_);rintro e w5 ⟨A5,c5,rfl,own5,hb5⟩);have b5:=b4.drew.trans (hb5.mono b4.size);have g5:=kA hb5 (iB g4);obtain ⟨u0,u1,u2,u3,u4,_⟩:=kN g5;(try go_simp))
  | ((try go_simp);go_at_call 103;((with_reducible refine (HK.out _ (b4.alloc b4.size (zKr x1 x2 x3 x4 x5)).drew).mono ?_);rintro e w5 ⟨A5,c5,rfl,own5,hb5⟩);have b6:=(b4.alloc b4.size (zKr x1 x2 x3 x4 x5)).drew.trans (hb5.mono (b4.alloc b4.size (zKr x1 x2 x3 x4 x5)).size);have gB:=kA hb5 (iB (rB w4 (zKr x1 x2 x3 x4 x5)));(try go_simp))
  | (refine lN rfl (.tmp 56) (.tmp 58) rfl zAe w4.heap.size (.slice A5 xs.length c5) xs.length (flat vU xs) (by rfl) (oC (jB own5 (wA w5 _)) (mA _)) (yA ⟨w5.heap.size,0,none⟩) 1 1 (vU (x1,x2,x3,x4,x5)) (by rfl) (by rfl) (dC.new w5 _ _) (zHc _) (by unfold maxLen;omega) (by omega) (pA hb5.size (wA w5 _).size) (fun h=>by cases h) ?_;intro A7 c7 w7 own7 hg7 hat7;have b7:=Below.appended (b5.trans ((wA w5 (zKr x1 x2 x3 x4 x5)).mono b5.size)) (jB own5 (wA w5 (zKr x1 x2 x3 x4 x5))) hg7 (pA b5.size (wA w5 (zKr x1 x2 x3 x4 x5)).size) b4.size)
  | (refine lN rfl (.tmp 56) (.tmp 58) rfl zAe w4.heap.size (.slice A5 xs.length c5) xs.length (flat vU xs) (by rfl) (oC own5 (wA w4 (zKr x1 x2 x3 x4 x5)).size) (yA ⟨w4.heap.size,0,none⟩) 1 1 (vU (x1,x2,x3,x4,x5)) (by rfl) (by rfl) (.inr ⟨w4.heap.size,0,rfl,eB gB,fun j u hj=>by rw [jA gB,Nat.zero_add];simpa [vU] using hj⟩) (zHc _) (by unfold maxLen;omega) (by omega) (pA (wA w4 (zKr x1 x2 x3 x4 x5)).size hb5.size) (fun h=>by cases h) ?_;intro A7 c7 w7 own7 hg7 hat7;have b7:=Below.appended b6 own5 hg7 b6.size (pA b4.size (wA w4 (zKr x1 x2 x3 x4 x5)).size)))
 all_goals go_wp2
 all_goals go_ret2
 all_goals (
  have er:=HZ2.out.2.2.2 (by simpa using ‹(!m)=false›) (by omega) (by omega)
  subst er
  refine ⟨A7,c7,by rw [kB];rfl,?_,b7⟩
  rw [kB,uD]
  exact oC own7 b4.size)
end Go.Proofs.YtogbpifcmhafkaaGreat
