/-
 Part PU of the proof.
-/
import Derived.Test.YtogbpifcmhafkaaGreatPR
import Derived.Test.YtogbpifcmhafkaaGreatPZJ
open Go renaming Addr->mB,Calls->iA,World->uA
open Go.Lib renaming hid->fA
open Go.RowKit renaming Hid->jC
open Go.World renaming size_alloc->wB
open List renaming length_cons->qD,length_take->sB
open Nat renaming le_refl->mA,le_succ->uE,le_trans->pA
open Option renaming some->yA
namespace Go.Proofs.YtogbpifcmhafkaaGreat
open Go.RowKit Tryz
open Go.Lib(hid)
set_option linter.unusedVariables false
set_option linter.unusedSimpArgs false
set_option maxRecDepth 100000
set_option maxHeartbeats 16000000
section
variable {M:Nat} {t v:Int} {L:Option mB} {n c:Nat} {r s:Int} {Q O:Nat} {w:uA}
theorem zQb (h:w.heap[M]?=yA (mO t v L n c r s Q O)):iA prog 97 #[(M,0)] w fun e w'=>e=.returned (.agg #[t,v])/\Below w.heap.size w w':=by
 have c1:=jA h 1
 have c2:=jA h 2
 have hl:=eB h
 go_enter func97,ntmps97
 go_wp2
 refine bodyPost_ret (v:=.agg #[t,v]) (by simp [results,results97,go_sem]) rfl ?_
 exact ⟨rfl,wA _ _⟩
theorem zRe (h:w.heap[M]?=yA (mO t v L 1 c r s Q O)) (hL:Lo w L 1):iA prog 98 #[(M,0)] w fun e w'=>∃ A' c',e=.returned (zLo A' 1 c')/\1<=c'/\Lo w' A' 1/\Below w.heap.size w w':=by
 have c3:=jA h 3
 have c4:=jA h 4
 have c5:=jA h 5
 have hl:=eB h
 have HC:=fA (fun W (hb:Below w.heap.size w W)=>zLg L c W (hL.below hb))
 have hal:=yI w (.cells #[.int .i64 0,.int .i64 0,.slice none 0 0] 148) (.cells #[.int .i64 0,.int .i64 0,.slice L 1 c] 148)
 have g0:=bG w (.cells #[.int .i64 0,.int .i64 0,.slice none 0 0] 148) (.cells #[.int .i64 0,.int .i64 0,.slice L 1 c] 148)
 have g1:=sF w (.cells #[.int .i64 0,.int .i64 0,.slice none 0 0] 148) (.cells #[.int .i64 0,.int .i64 0,.slice L 1 c] 148)
 clear hL
 go_enter func98,ntmps98
 go_wp2_with (go_at_call 149;refine (HC.out _ hal).mono ?_;rintro e w1 ⟨A1,c1,rfl,l1,n1,h11,hb1⟩;have hw1:=hal.trans (hb1.mono hal.size);obtain ⟨a0,a1,a2,a3,a4,a5,a6⟩:=vH (kA hb1 g1);obtain ⟨b0,b1,b2,b3,b4,b5,b6⟩:=vH (kA hb1 g0))
 have hs1:=eB (kA hb1 g1)
 have e2:((w.alloc (.cells #[.int .i64 0,.int .i64 0,.slice none 0 0] 148)).alloc (.cells #[.int .i64 0,.int .i64 0,.slice L 1 c] 148)).heap.size=w.heap.size+2:=by simp
 obtain ⟨q0,q1,q2,_⟩:=vH (xI (pC (i:=2) (kA hb1 g0) (show w.heap.size≠w.heap.size+1 by omega) (.slice A1 1 c1)) (.int .i64 0) (.int .i64 0) (.slice A1 1 c1))
 refine bodyPost_ret (v:=zLo A1 1 c1) (by simp [results,results98,go_sem,q0,q1,q2]) rfl ?_
 refine ⟨A1,c1,rfl,h11,l1.chg (S:=[w.heap.size,w.heap.size+1]) (((((fD.refl _ w1).setCell (.inl (by simp)) _ _).setCell (.inl (by simp)) _ _).setCell (.inl (by simp)) _ _).setCell (.inl (by simp)) _ _) (fun x hx q=>by have:=n1 x hx;rw [e2] at this;simp at q;omega),rH (hw1.setCell (p:=⟨w.heap.size+1,2,none⟩) (uE _) _) (mA _) _ _ _⟩
end
theorem sync1 (V:Nat) (D:Option mB) (n c:Nat) (s t v:Int) (L:Option mB) (k lc:Nat) (w:uA) (h:w.heap[V]?=yA (vO D n c s t v L k lc)):iA prog 80 #[(V,0)] w fun e w'=>e=.returned (.tuple #[])/\fD [V] w w':=by
 have c0:=jA h 0
 have c1:=jA h 1
 have f1:=qB h 1
 have hl:=eB h
 go_enter func80,ntmps80
 go_wp2
 refine bodyPost_end (results_none rfl _ _ _) rfl ?_
 exact ⟨rfl,(fD.refl _ w).setCell (.inl (by simp)) _ _⟩
theorem zRz (G A V M:Nat) (L:Option mB) (c Q O:Nat) (w:uA) (hG:w.heap[G]?=yA (gO A)) (hA:w.heap[A]?=yA (.cells #[(M,0),(V,0)] 83)) (hV:w.heap[V]?=yA (vO none 0 0 0 0 0 none 0 0)) (hM:w.heap[M]?=yA (mO 1 1 L 1 c 2 1 Q O)) (hL:Lo w L 1) :
  iA prog 43 #[(G,0),.int .i64 1] w fun e w'=>e=.returned (.int .i64 0)/\∃ D n c L' lc',w'.heap[V]?=yA (vO D n c 0 1 1 L' 1 lc')/\fD [V] w w':=by
 have hne:A≠V:=vX hA hV (by decide)
 have HOF:=fA (zOg G A _ w hG)
 have HB:=fA (fun W (hb:Below w.heap.size w W)=>zQb (kA hb hM))
 have HLG:=fA (fun W (hb:Below w.heap.size w W)=>zRe (kA hb hM) (hL.below hb))
 have HVV:=fA (fun W (hb:Below w.heap.size w W)=>kA hb hV)
 have HA:=fA (fun W (hb:Below w.heap.size w W)=>kA hb hA)
 obtain ⟨c0,c1,f0,f1,hlt⟩:=nJ hA
 clear hG hM hL hV hA
 go_enter func43,ntmps43
 go_upto_region 2 with (go_at_call 37;refine HOF.out.mono ?_;rintro e wx ⟨rfl,hwx⟩;subst hwx)
 go_region_held3 (fun W=>W.cell? ⟨A,0,none⟩=yA (.pointer (yA ⟨M,0,none⟩))/\W.cell? ⟨A,1,none⟩=yA (.pointer (yA ⟨V,0,none⟩))) (first | with_reducible exact ⟨c0,c1⟩ | with_reducible exact ⟨k0,k1⟩ | with_reducible exact ⟨j0,j1⟩ | with_reducible exact ⟨i0,i1⟩ | with_reducible exact ⟨m0,m1⟩ | go_keep) (first
  | (go_at_call 97;(with_reducible refine (HB.out _ (xC wx).drew).mono ?_);rintro e w1 ⟨rfl,hb1⟩;have hw1:=(xC wx).drew.trans hb1;obtain ⟨k0,k1,_⟩:=nJ (HA.out _ hw1))
  | (go_at_call 97;(with_reducible refine (HB.out _ hw2).mono ?_);rintro e w3 ⟨rfl,hb3⟩;have hw3:=hw2.trans (hb3.mono hw2.size);obtain ⟨i0,i1,_⟩:=nJ (HA.out _ hw3);have l3:=l2.below hb3)
  | (go_at_call 98;(with_reducible refine (HLG.out _ hw1).mono ?_);rintro e w3 ⟨A3,c3,rfl,_,l3,hb3⟩;have hw3:=hw1.trans (hb3.mono hw1.size);obtain ⟨i0,i1,_⟩:=nJ (HA.out _ hw3))
  | (go_at_call 98;(with_reducible refine (HLG.out _ (xC wx).drew).mono ?_);rintro e w2 ⟨A3,c3,rfl,_,l2,hb2⟩;have hw2:=(xC wx).drew.trans hb2;obtain ⟨j0,j1,_⟩:=nJ (HA.out _ hw2))
  | (go_at_call 96;(with_reducible refine (zRU V A3 c3 w3 (HVV.out _ hw3) l3).mono ?_);rintro e w4 ⟨rfl,D,n,dc,L',lc',v4,C4⟩;obtain ⟨m0,m1,_⟩:=nJ (C4.keep (HA.out _ hw3) (by simpa using hne))))
 all_goals go_wp2
 all_goals go_ret
 all_goals exact ⟨rfl,D,n,dc,L',lc',v4,(fD.of_below hw3:fD [V] wx w3).trans C4 fun x hx=>.inl hx⟩
theorem acts1 (G A V M:Nat) (L:Option mB) (c Q O:Nat) (w:uA) (hG:w.heap[G]?=yA (gO A)) (hA:w.heap[A]?=yA (.cells #[(M,0),(V,0)] 83)) (hV:w.heap[V]?=yA (vO none 0 0 0 0 0 none 0 0)) (hM:w.heap[M]?=yA (mO 1 1 L 1 c 2 1 Q O)) (hL:Lo w L 1) :
  iA prog 36 #[(G,0),.int .i64 1,.slice none 0 0] w fun e w'=>e=.returned (.tuple #[])/\w'.heap[G]?=yA (gO A)/\fD [V,G] w w':=by
 have hGV:G≠V:=vX hG hV (by decide)
 have hAV:A≠V:=vX hA hV (by decide)
 have HS:=fA (zRz G A V M L c Q O w hG hA hV hM hL)
 have HG:=fA hG
 have HA:=fA hA
 have hap:∀ W,(Builtin.append_ #[76,76] 76 #[.slice none 0 0,.slice none 0 0]).run prog W=.ok (.slice none 0 0) W:=fun W=>by kernel_rfl
 clear hG hV hM hL hA
 go_enter func36,ntmps36
 go_wp2_with (first
  | (go_at_call 43;refine HS.out.mono ?_;rintro e w1 ⟨rfl,D,n,dc,L',lc',v1,C1⟩;have HV1:=fA v1;have g1:=C1.keep HG.out (by simpa using hGV);have HG1:=fA g1;have HOF:=fA (zOg G A _ w1 g1);obtain ⟨a0,a1,_⟩:=nJ (C1.keep HA.out (by simpa using hAV)))
  | (go_at_call 37;refine HOF.out.mono ?_;rintro e wx ⟨rfl,hwx⟩;subst hwx)
  | (go_at_call 80;refine (sync1 V D n dc 0 1 1 L' 1 lc' _ HV1.out).mono ?_;rintro e w2 ⟨rfl,C2⟩;have g2:=C2.keep HG1.out (by simpa using hGV);obtain ⟨b0,b1,b2,b3,b4⟩:=nJ g2))
 refine bodyPost_end (results_none rfl _ _ _) rfl ?_
 exact ⟨rfl,zD (i:=1) g2 _,((C1.mono (fun x hx=>.inl (by simp at hx;simp [hx]))).trans C2 (fun x hx=>.inl (by simp at hx;simp [hx]))).setCell (.inl (by simp)) _ _⟩
theorem zRP (G A:Nat) (w:uA) (hG:w.heap[G]?=yA (gO A)):iA prog 35 #[.pointer (yA ⟨G,0,none⟩),.agg #[.int .i64 0,.int .i64 1,.int .i64 0,.int .i64 0]] w fun e w'=>e=.returned (.int .i64 0)/\Below w.heap.size w w':=by
 have c0:=jA hG 0
 have hl:=eB hG
 go_enter func35,ntmps35
 go_wp2
 go_ret
 exact ⟨rfl,wA _ _⟩
theorem do1 (G A V M Q O:Nat) (w:uA) (h:GM w G A V M Q O):iA prog 12 #[.pointer (yA ⟨G,0,none⟩),.agg #[.int .i64 0,.int .i64 1,.int .i64 0,.int .i64 0]] w fun e w'=>e=.returned (.int .i64 0)/\fD [G,A,V,M,Q,O] w w'/\∃ L c,w'.heap[G]?=yA (gO A)/\w'.heap[A]?=yA (.cells #[(M,0),(V,0)] 83)/\w'.heap[M]?=yA (mO 1 1 L 1 c 2 1 Q O)/\Lo w' L 1:=by
 obtain ⟨hG,hA,hV,hM,hQ,hO⟩:=h
 have hQm:∀ {x:Nat} {cs:Array Value} {t:TypeId},w.heap[x]?=yA (.cells cs t) -> x≠Q:=fun {x cs t} hx e=>by
  obtain ⟨es,k,hb,_⟩:=hQ
  rw [e,hb] at hx
  cases hx
 have n1:G≠M:=vX hG hM (by decide)
 have n2:G≠O:=vX hG hO (by decide)
 have n3:A≠M:=vX hA hM (by decide)
 have n4:A≠O:=vX hA hO (by decide)
 have n5:V≠M:=vX hV hM (by decide)
 have n6:V≠O:=vX hV hO (by decide)
 have n7:G≠A:=vX hG hA (by decide)
 have n8:G≠V:=vX hG hV (by decide)
 have n9:A≠V:=vX hA hV (by decide)
 have q1:=hQm hG
 have q2:=hQm hA
 have q3:=hQm hV
 have q4:=hQm hM
 have q5:=hQm hO
 clear hQm
 have hal:=wA w (.cells #[.int .i64 0,.int .i64 1,.int .i64 0,.int .i64 0] 32)
 have gF:=rB w (.cells #[.int .i64 0,.int .i64 1,.int .i64 0,.int .i64 0] 32)
 have lG:=eB hG
 have lM:=eB hM
 have lO:=eB hO
 have lV:=eB hV
 have lQ:=hQ.lt
 have HG:=fA (fun W (hb:Below w.heap.size w W)=>kA hb hG)
 have HA:=fA (fun W (hb:Below w.heap.size w W)=>kA hb hA)
 have HV:=fA (fun W (hb:Below w.heap.size w W)=>kA hb hV)
 have HT:=fA (fun W (hb:Below w.heap.size w W)=>zPK M Q O W (kA hb hM) (hQ.below hb) (kA hb hO) q4 q5)
 have HTH:=fA (zRP G A _ (kA hal hG))
 have i0:=jA gF 0
 have i1:=jA gF 1
 have i2:=jA gF 2
 have i3:=jA gF 3
 have il:=eB gF
 clear hG hA hV hM hQ hO
 go_enter func12,ntmps12
 go_upto_region 13 with (go_at_call 35;refine HTH.out.mono ?_;rintro e w1 ⟨rfl,hb1⟩;have hw1:=hal.trans (hb1.mono hal.size);have g1:=kA hb1 gF;clear i0 i1 i2 i3 il;have i0:=jA g1 0;have i1:=jA g1 1;have il:=eB g1)
 have a0:=jA (HA.out _ hw1) 0
 have al:=eB (HA.out _ hw1)
 have HOF:=fA (zOg G A _ _ (HG.out _ hw1.drew))
 have HTO:=fA (HT.out _ hw1.drew)
 have nF:w.heap.size ∉ [M,Q,O]:=by simp;omega
 have nF2:w.heap.size ∉ [V,G]:=by simp;omega
 go_region_law (first
  | (go_simp;go_at_call 37;refine HOF.out.mono ?_;rintro e wx ⟨rfl,hwx⟩;subst hwx;(try go_simp))
  | (go_simp;go_at_call 38;refine HTO.out.mono ?_;rintro e w2 ⟨rfl,L,c,m2,l2,k2,C2⟩;have g2:=C2.keep (iB g1) nF;have j0:=jA g2 0;have j1:=jA g2 1;have jl:=eB g2;have HM2:=fA m2;have HA2:=fA (C2.keep (HA.out _ hw1.drew) (by simp;omega));have HAC:=fA (acts1 G A V M L c Q O w2 (C2.keep (HG.out _ hw1.drew) (by simp;omega)) HA2.out (C2.keep (HV.out _ hw1.drew) (by simp;omega)) m2 l2);(try go_simp))
  | (go_simp;go_at_call 36;refine HAC.out.mono ?_;rintro e w3 ⟨rfl,hG3,C3⟩;have g3:=C3.keep g2 nF2;have z0:=jA g3 0;have z1:=jA g3 1;have zl:=eB g3;(try go_simp)))
 all_goals go_wp2
 all_goals go_ret
 all_goals exact ⟨rfl,((fD.of_below hw1.drew:fD [G,A,V,M,Q,O] w _).trans C2 (fun x hx=>.inl (by simp at hx;rcases hx with rfl | rfl | rfl <;> simp))).trans C3 (fun x hx=>.inl (by simp at hx;rcases hx with rfl | rfl <;> simp)),L,c,hG3,C3.keep HA2.out (by simp;omega),C3.keep HM2.out (by simp;omega),l2.chg C3 (fun x hx q=>by have h1:w1.heap.size<=x:=k2 x hx;have:=hw1.size;simp at q;rcases q with rfl | rfl <;> omega)⟩
theorem zLZ (G A V M Q O:Nat) (L:Option mB) (c:Nat) (w:uA) (hG:w.heap[G]?=yA (gO A)) (hA:w.heap[A]?=yA (.cells #[(M,0),(V,0)] 83)) (hM:w.heap[M]?=yA (mO 1 1 L 1 c 2 1 Q O)) (hL:Lo w L 1) :
  iA prog 14 #[(G,0),.int .i64 1] w fun e w'=>∃ A c,e=.returned (.slice A 1 c)/\Below w.heap.size w w':=by
 have HOF:=fA (fun W (hb:Below w.heap.size w W)=>zOg G A _ W (kA hb hG))
 have HH:jC (iA prog 100 #[.pointer (yA ⟨G,0,none⟩),.int .i64 1] w fun e w'=>e=.returned (.bool true)/\w'=w):=fA (by
  have c0:=jA hG 0
  have gl:=eB hG
  go_enter func100,ntmps100
  go_wp2
  go_ret
  exact ⟨rfl,rfl⟩)
 have HL:jC (iA prog 45 #[.pointer (yA ⟨G,0,none⟩),.int .i64 1] w fun e w'=>∃ A c,e=.returned (.slice A 1 c)/\1<=c/\Below w.heap.size w w'):=fA (by
  have a0:=jA hA 0
  have al:=eB hA
  have HLG:=fA (zRe hM hL)
  have hfl:∀ A c W,(Instr.field 148 (zLo A 1 c) 2).run prog W=.ok (.slice A 1 c) W:=fun _ _ _=>by kernel_rfl
  clear hG hA hM hL
  go_enter func45,ntmps45
  go_wp2_with (first
   | (go_at_call 100;refine HH.out.mono ?_;rintro e w' ⟨rfl,hw'⟩;obtain rfl:w=w':=hw'.symm)
   | (go_at_call 37;refine (HOF.out _ (xC _)).mono ?_;rintro e w' ⟨rfl,hw'⟩;obtain rfl:w=w':=hw'.symm)
   | (go_at_call 98;refine HLG.out.mono ?_;rintro e w1 ⟨A1,c1,rfl,h11,l1,hb1⟩))
  go_ret
  exact ⟨A1,c1,rfl,h11,hb1⟩)
 have HST:jC (∀ W,W.cell? ⟨M,7,none⟩=yA (.int .i64 1) -> M<W.heap.size -> iA prog 46 #[.pointer (yA ⟨M,0,none⟩)] W fun e w'=>e=.returned (.int .i64 1)/\w'=W):=fA fun W h1 h2=>by
  go_enter func46,ntmps46
  go_wp2
  go_ret
  exact ⟨rfl,rfl⟩
 have HA:=fA (fun W (hb:Below w.heap.size w W)=>kA hb hA)
 have HM:=fA (fun W (hb:Below w.heap.size w W)=>kA hb hM)
 clear hG hA hM hL
 go_enter func14,ntmps14
 go_wp2_with (first
  | (go_at_call 45;refine HL.out.mono ?_;rintro e w1 ⟨A1,c1,rfl,h11,hb1⟩;have HB1:=fA hb1;have a0:=jA (HA.out _ hb1) 0;have al:=eB (HA.out _ hb1);have m7:=jA (HM.out _ hb1) 7;have ml:=eB (HM.out _ hb1);have hsl:∀ W,(Instr.slice 43 (.slice A1 1 c1) none (yA (.int .i64 1)) none).run prog W=.ok (.slice A1 1 c1) W:=fun W=>mP zLl A1 1 c1 1 h11 W)
  | (go_at_call 37;refine (HOF.out _ HB1.out).mono ?_;rintro e w' ⟨rfl,hw'⟩;obtain rfl:w1=w':=hw'.symm)
  | (go_at_call 46;refine (HST.out _ m7 ml).mono ?_;rintro e w' ⟨rfl,hw'⟩;obtain rfl:w1=w':=hw'.symm))
 go_ret
 exact ⟨A1,c1,rfl,HB1.out⟩
theorem zLw:∀ (f:Nat) (xs:List Ne) (i:Nat),(zHs f xs i).length=xs.length
 | 0,_,_=>rfl
 | f + 1, xs, i => by
  unfold zHs
  split
  ·rw [zLw f,tP]
  ·rfl
theorem zDr:∀ (f:Nat) (xs:List Ne) (i:Nat),(vR f xs i).length=xs.length
 | 0,_,_=>rfl
 | f + 1, xs, i => by
  unfold vR
  split
  ·first | rw [zDr f,tP] | rfl
  ·first | rw [zDr f,tP] | rfl
def zKH (xs:List Ne) (x:Ne):List Ne:=zHs (xs.length+1) (xs ++ [x]) xs.length
theorem zPc (xs:List Ne) (x:Ne):(zKH xs x).length=xs.length+1:=by unfold zKH;rw [zLw];simp
def uX (xs:List Ne):List Ne:=vR (xs.length - 1) ((xs.set 0 (xs.getD (xs.length - 1) (0,0,0))).take (xs.length - 1)) 0
theorem zDy (xs:List Ne):(uX xs).length=xs.length - 1:=by unfold uX;rw [zDr,sB,List.length_set];omega
def qU:Nat -> List Ne -> List Ne
 | 0,_=>[]
 | f+1,xs=>xs.getD 0 (0,0,0) :: qU f (uX xs)
theorem zCx:∀ (f:Nat) (xs:List Ne),(qU f xs).length=f
 | 0,_=>rfl
 | f+1,xs=>by unfold qU;rw [qD,zCx f]
def zIs (ns:List Nd) (alive:List Int) (c:Ch):Ne:=(c.1,((mM c.2.2.2 ns alive).length:Int),((sK c.2.2.2 alive).length:Int))
def wantN (want:Int) (n:Ne):Bool:=decide (0<n.2.2) && decide (n.2.1<want)
def zAz (ns:List Nd) (alive:List Int) (want:Int) (q:List Ne) (c:Ch):List Ne:=if wantN want (zIs ns alive c) then zKH q (zIs ns alive c) else q
def kU (ns:List Nd) (alive:List Int) (want:Int) (cs:List Ch):List Ne:=cs.foldl (zAz ns alive want) []
def yY (cs:List Ch) (ns:List Nd) (alive:List Int) (want:Int):List Ne:=qU (kU ns alive want cs).length (kU ns alive want cs)
theorem zMw (ns:List Nd) (alive:List Int) (want:Int) (q:List Ne) (c:Ch):(zAz ns alive want q c).length<=q.length+1:=by
 unfold zAz
 split
 ·rw [zPc];exact mA _
 ·exact uE _
theorem zFX (ns:List Nd) (alive:List Int) (want:Int):∀ (cs:List Ch) (q:List Ne),(cs.foldl (zAz ns alive want) q).length<=q.length+cs.length
 | [],q=>mA _
 | c :: cs, q => by
  have h1:=zFX ns alive want cs (zAz ns alive want q c)
  have h2:=zMw ns alive want q c
  rw [List.foldl_cons,qD]
  omega
theorem zDv (ns:List Nd) (alive:List Int) (want:Int) (cs:List Ch):(kU ns alive want cs).length<=cs.length:=by
 have:=zFX ns alive want cs []
 simpa [kU] using this
theorem zKx (ns:List Nd) (alive:List Int) (want:Int) (cs:List Ch) {k:Nat} (hk:k<cs.length):kU ns alive want (cs.take (k+1))=zAz ns alive want (kU ns alive want (cs.take k)) (cs[k]'hk):=by
 unfold kU
 rw [List.take_succ_eq_append_getElem hk,List.foldl_append]
 rfl
theorem zFP (q:List Ne):qU q.length q=if decide (0<q.length) then (q.getD 0 (0,0,0)) :: qU (uX q).length (uX q) else []:=by
 cases h:q.length with
 | zero=>rfl
 | succ f=>rw [zDy,h,if_pos (by simp)];rfl
theorem yN.chg {S:List Nat} {w w':uA} {Q base:Nat} {A:Option mB} {c:Nat} {xs:List Ne} (h:yN w Q base A c xs) (hc:fD S w w') (h1:Q ∉ S) (h2:∀ x ∈ zB A,x ∉ S):yN w' Q base A c xs:=⟨hc.keep h.blk h1,xE h.row hc h2,h.far,h.base⟩
theorem zGA (Q base:Nat) (A:Option mB) (c:Nat) (xs:List Ne) (w:uA) (h:yN w Q base A c xs) (hm:xs.length<=1000000) (hb:base<=w.heap.size):iA prog 177 #[(Q,0)] w fun e w'=>e=.returned (.tuple #[.agg #[.int .i64 (xs.getD 0 (0,0,0)).1,.int .i64 (xs.getD 0 (0,0,0)).2.1,.int .i64 (xs.getD 0 (0,0,0)).2.2],.bool (decide (0<xs.length))])/\yN w' Q base A c (uX xs)/\Below base w w'/\fD (Q :: zB A) w w':=by
 cases xs with
 | nil=>exact zNh Q base A c w h hb
 | cons x xs=>exact zNi Q base A c (x :: xs) w h (by simp) hm hb
theorem zMx (A B C : Option mB) (ca cb cc : Nat) (cs : List Ch) (ns : List Nd) (alive : List Int) (want : Int) (w : uA) (h : vM w A ca cs) (h2 : yB qH w B cb ns) (h3 : yB kG w C cc alive) : iA prog 106 #[.slice A cs.length ca, .slice B ns.length cb, .slice C alive.length cc, want] w (mD 258 3 (yY cs ns alive want).length (flat zDO (yY cs ns alive want)) w) := by
 have HI:=fA h
 have H2:=fA h2
 have H3:=fA h3
 have hmx:=h.max
 have hQL:=zDv ns alive want cs
 have HQ0:jC (kU ns alive want (cs.take 0)=[]):=fA rfl
 clear h h2 h3
 go_enter func106,ntmps106
 go_wp2_with (go_at_call 173;refine (zOP _).mono ?_;rintro e w1 ⟨rfl,hp1,hb1⟩)
 have HP0:=fA hp1
 clear hp1
 go_loopw [11,12,19] (fun v11 v12 i wr=>∃ (k c':Nat) (A':Option mB),k<=cs.length/\i=.int .i64 (k:Int)/\jC (yN wr w.heap.size w.heap.size A' c' (kU ns alive want (cs.take k)))/\Below w.heap.size w wr) (fun _ _ i _=>cs.length - (intOf i).toNat)
 case atStart=>exact ⟨0,0,none,by omega,rfl,HP0,hb1⟩
 case round =>
  clear hb1 HP0
  obtain ⟨k,c',A',hk,rfl,HP,hw⟩:=hrel
  have hk0:(0:Int)<=(k:Int):=by omega
  by_cases hlt:k<cs.length
  ·have hk1:(k:Int)<(cs.length:Int):=by omega
   have HS:=fA (zKx ns alive want cs hlt)
   have hql:=zDv ns alive want (cs.take k)
   rw [sB] at hql
   obtain ⟨b,off,a,d,rfl,blt,d0,d1,d2,d3,HH⟩:=(HI.out.below hw).cells hlt
   generalize kU ns alive want (cs.take k)=q at *
   generalize (cs[k]'hlt)=x at *
   obtain ⟨x1,x2,x3,x4⟩:=x
   simp only at d0 d1 d2 d3 HH
   have HG:jC (∀ W,Below wr.heap.size wr W -> iA prog 174 #[.agg #[x1,x2,.int .u32 x3,.slice a x4.length d],.slice B ns.length cb,.slice C alive.length cc] W (mD 3 1 (mM x4 ns alive).length (flat kG (mM x4 ns alive)) W)):=fA fun W hb=>zIf x1 x2 x3 a d x4 B cb ns C cc alive W (HH.below hb) (H3.out.below (hw.trans (hb.mono hw.size))) (H2.out.below (hw.trans (hb.mono hw.size)))
   have HL:jC (∀ W,Below wr.heap.size wr W -> iA prog 175 #[.agg #[x1,x2,.int .u32 x3,.slice a x4.length d],.slice C alive.length cc] W (mD 3 1 (sK x4 alive).length (flat kG (sK x4 alive)) W)):=fA fun W hb=>zEM x1 x2 x3 a d x4 C cc alive W (HH.below hb) (H3.out.below (hw.trans (hb.mono hw.size)))
   have HNE:jC (zAz ns alive want q (x1,x2,x3,x4)=if decide (0<((sK x4 alive).length:Int)) && decide (((mM x4 ns alive).length:Int)<want) then zKH q (x1,((mM x4 ns alive).length:Int),((sK x4 alive).length:Int)) else q):=fA rfl
   have hxm:=HH.max
   have hl1:=xX x4 alive
   clear HH
   generalize (mM x4 ns alive)=gs at *
   generalize (sK x4 alive)=ls at *
   have hal:=wA wr (qN x1 x2 x3 a x4.length d)
   obtain ⟨e0,e1,e2,e3,_⟩:=nH (rB wr (qN x1 x2 x3 a x4.length d))
   have gX:=rB wr (qN x1 x2 x3 a x4.length d)
   have hw0:=hw.trans (hal.mono hw.size)
   have hsz2:wr.heap.size+1<=(wr.alloc (qN x1 x2 x3 a x4.length d)).heap.size:=by rw [wB];exact mA _
   go_upto_region 5 with fail
   generalize wr.alloc (qN x1 x2 x3 a x4.length d)=W2 at *
   have hs2:wr.heap.size+1<=W2.heap.size:=hsz2
   have hSk:∀ V:uA,Below (wr.heap.size+1) W2 V -> (fun W=>W.cell? ⟨wr.heap.size,0,none⟩=yA (.int .i64 x1)/\W.cell? ⟨wr.heap.size,1,none⟩=yA (.int .i64 x2)/\W.cell? ⟨wr.heap.size,2,none⟩=yA (.int .u32 x3)/\W.cell? ⟨wr.heap.size,3,none⟩=yA (.slice a x4.length d)) V:=fun V hV=>by
    have hg:V.heap[wr.heap.size]?=yA (qN x1 x2 x3 a x4.length d):=by rw [hV.block _ (Nat.lt_succ_self _)];exact gX
    exact ⟨jA hg 0,jA hg 1,jA hg 2,jA hg 3⟩
   have hK0:=Below.refl (wr.heap.size+1) W2
   go_cut [12] (fun p wx=>∃ N,p=.pointer (yA ⟨N,0,none⟩)/\wx.heap[N]?=yA (vN x1 (gs.length:Int) (ls.length:Int))/\Below wr.heap.size wr wx)
   case first =>
    go_region_held3 (fun W=>W.cell? ⟨wr.heap.size,0,none⟩=yA (.int .i64 x1)/\W.cell? ⟨wr.heap.size,1,none⟩=yA (.int .i64 x2)/\W.cell? ⟨wr.heap.size,2,none⟩=yA (.int .u32 x3)/\W.cell? ⟨wr.heap.size,3,none⟩=yA (.slice a x4.length d)) (((refine hSk _ ?_;repeat' (first | exact hK4 | exact hK3 | exact hK0 | refine Below.drew ?_ | refine Below.setCell ?_ ?_ _ | refine Below.alloc ?_ ?_ _ | exact pA hs2 hs3 | exact hs2 | omega)))) (first
     | (go_at_call 174;((with_reducible refine (HG.out _ hal.drew).mono ?_);rintro e w3 ⟨A3,c3,rfl,own3,hb3⟩);have b3:=hal.drew.trans (hb3.mono hal.size);have hK3:=hK0.drew.trans (hb3.mono hs2);have hs3:W2.heap.size<=w3.heap.size:=hb3.size)
     | (go_at_call 174;((with_reducible refine (HG.out _ (hal.alloc hal.size (vN 0 0 0)).drew).mono ?_);rintro e w3 ⟨A3,c3,rfl,own3,hb3⟩);have b3:=(hal.alloc hal.size (vN 0 0 0)).drew.trans (hb3.mono (hal.alloc hal.size (vN 0 0 0)).size);have hK3:=(hK0.alloc hs2 (vN 0 0 0)).drew.trans (hb3.mono (pA hs2 (wA W2 (vN 0 0 0)).size));have gN3:=kA hb3 (iB (rB W2 (vN 0 0 0)));have hs3:W2.heap.size<=w3.heap.size:=pA (wA W2 (vN 0 0 0)).size hb3.size)
     | (go_at_call 175;((with_reducible refine (HL.out _ b3).mono ?_);rintro e w4 ⟨A4,c4,rfl,own4,hb4⟩);have b4:=b3.trans (hb4.mono b3.size);have hK4:=hK3.trans (hb4.mono (pA hs2 hs3));have gN4:=kA hb4 gN3;obtain ⟨n0,n1,n2,nf0,nf1,nf2,nlt⟩:=vH gN4)
     | (go_at_call 175;((with_reducible refine (HL.out _ b3).mono ?_);rintro e w4 ⟨A4,c4,rfl,own4,hb4⟩);have b4:=b3.trans (hb4.mono b3.size);have hK4:=hK3.trans (hb4.mono (pA hs2 hs3));have hs4:w3.heap.size<=w4.heap.size:=hb4.size)
     | (go_at_call 175;((with_reducible refine (HL.out _ (b3.alloc b3.size (vN 0 0 0))).mono ?_);rintro e w4 ⟨A4,c4,rfl,own4,hb4⟩);have b4:=(b3.alloc b3.size (vN 0 0 0)).trans (hb4.mono (b3.alloc b3.size (vN 0 0 0)).size);have hK4:=(hK3.alloc (pA hs2 hs3) (vN 0 0 0)).trans (hb4.mono (pA (pA hs2 hs3) (wA w3 (vN 0 0 0)).size));have gN5:=kA hb4 (rB w3 (vN 0 0 0));obtain ⟨n0,n1,n2,nf0,nf1,nf2,nlt⟩:=vH gN5))
    all_goals (go_wp2_with fail;go_meet)
    all_goals (first
     | exact ⟨_,rfl,xI gN4 _ _ _,rH b4 hal.size _ _ _⟩
     | exact ⟨_,rfl,xI gN5 _ _ _,rH b4 b3.size _ _ _⟩
     | exact ⟨w4.heap.size,rfl,rB _ _,b4.alloc b4.size _⟩)
   case rest =>
    obtain ⟨N,rfl,gN,hbx⟩:=hcut
    obtain ⟨n0,n1,n2,_,_,_,nlt⟩:=vH gN
    have hw1:=hw.trans (hbx.mono hw.size)
    have HPX:=fA (HP.out.below hbx)
    have HPT:=fA (fun A1 c1 (W:uA) (hq:yN W w.heap.size w.heap.size A1 c1 q) (hz:w.heap.size<=W.heap.size)=>zPd w.heap.size w.heap.size A1 c1 q x1 (gs.length:Int) (ls.length:Int) W hq (by omega) hz)
    by_cases hl0:(0:Int)<(ls.length:Int)
    ·by_cases hgw:(gs.length:Int)<want
     ·have HN2:jC (zAz ns alive want q (x1,x2,x3,x4)=zKH q (x1,(gs.length:Int),(ls.length:Int))):=fA (by rw [HNE.out,decide_eq_true hl0,decide_eq_true hgw];rfl)
      go_wp2_with (go_at_call 176;refine (HPT.out _ _ _ HPX.out hw1.size).mono ?_;rintro e w5 ⟨rfl,A5,c5,hp5,hb5⟩)
      go_roundw
      case rel=>exact ⟨k+1,c5,A5,by omega,by go_num,fA (by rw [HS.out,HN2.out];exact hp5),hw1.trans hb5⟩
      case measure=>simp [intOf];omega
     ·have HN2:jC (zAz ns alive want q (x1,x2,x3,x4)=q):=fA (by rw [HNE.out,decide_eq_false hgw,Bool.and_false];rfl)
      go_wp2
      go_roundw
      case rel=>exact ⟨k+1,c',A',by omega,by go_num,fA (by rw [HS.out,HN2.out];exact HPX.out),hw1⟩
      case measure=>simp [intOf];omega
    ·have HN2:jC (zAz ns alive want q (x1,x2,x3,x4)=q):=fA (by rw [HNE.out,decide_eq_false hl0,Bool.false_and];rfl)
     go_wp2
     go_roundw
     case rel=>exact ⟨k+1,c',A',by omega,by go_num,fA (by rw [HS.out,HN2.out];exact HPX.out),hw1⟩
     case measure=>simp [intOf];omega
  have hk1:¬ (k:Int)<(cs.length:Int):=by omega
  have hke:k=cs.length:=by omega
  subst hke
  rw [List.take_of_length_le (mA _)] at HP
  have HDR:=fA (zFP (kU ns alive want cs))
  obtain ⟨R,hR⟩:∃ R,yY cs ns alive want=R:=⟨_,rfl⟩
  have hRR:qU (kU ns alive want cs).length (kU ns alive want cs)=R:=hR
  have HRR:=fA hRR
  have HRL:jC (R.length=(kU ns alive want cs).length):=fA (by rw [<- hRR,zCx])
  have HRE:=fA hR
  clear hR hRR HI H2 H3
  generalize kU ns alive want cs=q0 at *
  have HT0:=fA (zGA w.heap.size w.heap.size A' c' q0 wr HP.out (by omega) hw.size)
  obtain ⟨⟨y1,y2,y3⟩,hy⟩:∃ y,q0.getD 0 (0,0,0)=y:=⟨_,rfl⟩
  rw [hy] at HT0 HDR
  simp only at HT0
  obtain ⟨d0,hd0⟩:∃ d,decide (0<q0.length)=d:=⟨_,rfl⟩
  rw [hd0] at HT0 HDR
  have HD0:=fA hd0
  clear hy hd0
  go_wp2_with (go_at_call 177;refine HT0.out.mono ?_;rintro e w2 ⟨rfl,hp2,hb2,hc2⟩)
  have hw2:=hw.trans hb2
  have gX0:=fA (rB w2 (vN y1 y2 y3))
  have hal2:=wA w2 (vN y1 y2 y3)
  have HP2:=fA (hp2.below hal2)
  have hw3:=hw2.trans (hal2.mono hw2.size)
  have hsQ:w.heap.size<w2.heap.size:=(nJ hp2.blk).2.2.2.2
  have HAL:jC (∀ x ∈ zB A',x<w2.heap.size):=fA fun x hx=>(qC hp2.row x hx).2
  have HO0:jC ((w2.alloc (vN y1 y2 y3)).ownsRow w2.heap.size 258 3 (.slice none 0 0) 0 (flat zDO [])):=fA (World.ownsRow_nil _ _ _ _)
  have hsz2:(w2.alloc (vN y1 y2 y3)).heap.size=w2.heap.size+1:=wB _ _
  have HSZ:=fA hsz2
  clear hp2 hc2 hsz2 hal2
  have hst:0+(if d0=true then (uX q0).length+1 else 0)<=cs.length:=by
   rw [zDy]
   split
   ·next e=>have:=HD0.out;rw [e] at this;have:=of_decide_eq_true this;omega
   ·omega
  have HR0:jC ([] ++ (if d0=true then (y1,y2,y3) :: qU (uX q0).length (uX q0) else [])=R):=fA (by rw [List.nil_append,<- HRR.out,HDR.out])
  generalize uX q0=q1 at *
  generalize w2.alloc (vN y1 y2 y3)=w3 at *
  go_loopw [13,14,15] (fun v13 v14 v15 wr=>∃ (A1:Option mB) (c1 n X:Nat) (q:List Ne) (y1 y2 y3:Int) (d:Bool) (l:List Ne),v13=.slice A1 n c1/\v14=.pointer (yA ⟨X,0,none⟩)/\v15=.bool d/\n+(if d=true then q.length+1 else 0)<=cs.length/\jC (wr.heap[X]?=yA (vN y1 y2 y3))/\jC (yN wr w.heap.size w.heap.size A' c' q)/\jC (wr.ownsRow w2.heap.size 258 3 (.slice A1 n c1) n (flat zDO l))/\jC ((∀ x ∈ zB A1,x≠X)/\w2.heap.size<=X)/\jC (l ++ (if d=true then (y1,y2,y3) :: qU q.length q else [])=R)/\Below w.heap.size w wr/\w2.heap.size<=wr.heap.size) (fun v13 _ _ _=>cs.length - zOy v13)
  case atStart=>exact ⟨none,0,0,w2.heap.size,q1,y1,y2,y3,d0,[],rfl,rfl,rfl,hst,gX0,HP2,HO0,fA ⟨fun x hx=>by simp [zB] at hx,mA _⟩,HR0,hw3,by rw [HSZ.out];omega⟩
  case round =>
   clear hst gX0 HP2 HO0 HR0 HRR HT0 HDR HD0 HSZ hw3 hw2 hb2 HP hw hk hk0 hk1
   obtain ⟨A1,c1,n,X,q,y1,y2,y3,d,l,rfl,rfl,rfl,hn,GX,HP,HO,HX,HR,hw,hsz⟩:=hrel
   cases d with
   | false =>
    go_wp2
    go_ret
    have hl:=HR.out
    rw [if_neg (by decide),List.append_nil] at hl
    have hO:=HO.out
    rw [hl] at hO
    have hln:=hO.1
    rw [jD zCE] at hln
    have:n=R.length:=by omega
    subst this
    rw [HRE.out]
    exact ⟨A1,c1,rfl,oC hO (Nat.le_of_lt hsQ),hw⟩
   | true =>
    rw [if_pos rfl] at hn
    have HR2:jC ((l ++ [(y1,y2,y3)]) ++ qU q.length q=R):=fA (by rw [<- HR.out,if_pos rfl,List.append_assoc];rfl)
    obtain ⟨p0,p1,p2,_,_,_,hXl⟩:=vH GX.out
    have HO2:=fA (jB HO.out (wA wr (vN y1 y2 y3)))
    have HDR:=fA (zFP q)
    have HTQ:jC (∀ W,yN W w.heap.size w.heap.size A' c' q -> iA prog 177 #[.pointer (yA ⟨w.heap.size,0,none⟩)] W fun e w'=>e=.returned (.tuple #[.agg #[.int .i64 (q.getD 0 (0,0,0)).1,.int .i64 (q.getD 0 (0,0,0)).2.1,.int .i64 (q.getD 0 (0,0,0)).2.2],.bool (decide (0<q.length))])/\yN w' w.heap.size w.heap.size A' c' (uX q)/\Below w.heap.size W w'/\fD (w.heap.size :: zB A') W w'):=fA fun W hW=>zGA w.heap.size w.heap.size A' c' q W hW (by omega) (Nat.le_of_lt (nJ hW.blk).2.2.2.2)
    obtain ⟨⟨z1,z2,z3⟩,hz⟩:∃ z,q.getD 0 (0,0,0)=z:=⟨_,rfl⟩
    rw [hz] at HTQ HDR
    simp only at HTQ
    obtain ⟨d1,hd1⟩:∃ d,decide (0<q.length)=d:=⟨_,rfl⟩
    rw [hd1] at HTQ HDR
    have HD1:=fA hd1
    clear hz hd1
    go_wp2_with (first
     | (at_builtin;refine yC rfl (.tmp 59) (.tmp 61) rfl zJR w2.heap.size (.slice A1 n c1) n _ (by rfl) HO2.out (yA ⟨wr.heap.size,0,none⟩) 1 1 [.int .i64 y1,.int .i64 y2,.int .i64 y3] (by rfl) rfl (dC.new wr _ _) (zRI (y1,y2,y3)) (by unfold maxLen;omega) (by omega) (pA hsz (wA wr _).size) (fun h=>by cases h) ?_;intro a3 c3 w4 hown hg hat;have b4:=Below.appended (hw.trans ((wA wr (vN y1 y2 y3)).mono hw.size)) HO2.out hg (pA hw.size (wA wr (vN y1 y2 y3)).size) (by omega);have C4:=tE hg;have g4:=C4.keep (kA (wA wr (vN y1 y2 y3)) GX.out) (fun hc=>HX.out.1 _ hc rfl);have HP4:=fA ((HP.out.below (wA wr (vN y1 y2 y3))).chg C4 (fun hc=>by have:=(qC HO.out _ hc).1;omega) (fun x hx hc=>by have:=HAL.out x hx;have:=(qC HO.out _ hc).1;omega));obtain ⟨p0,p1,p2,_,_,_,hXl4⟩:=vH g4;have hsz4:w2.heap.size<=w4.heap.size:=pA hsz (pA (wA wr (vN y1 y2 y3)).size C4.size);have HO4:=fA hown;clear hown hg hat)
     | (go_at_call 177;(refine (HTQ.out _ (HP4.out.below (wA w4 (vN y1 y2 y3)))).mono ?_;rintro e w5 ⟨rfl,hp5,hb5,hc5⟩);have gX5:=hc5.keep (rB w4 (vN y1 y2 y3)) (fun hc=>by simp at hc;rcases hc with hc | hc;omega;have:=HAL.out _ hc;omega);obtain ⟨r0,r1,r2,rf0,rf1,rf2,hXl5⟩:=vH gX5;have HO5:=fA (xE (jB HO4.out (wA w4 (vN y1 y2 y3))) hc5 (fun x hx hc=>by have:=(qC HO4.out x hx).1;simp at hc;rcases hc with hc | hc;omega;have:=HAL.out _ hc;omega))))
    go_roundw
    case rel =>
     refine ⟨a3,c3,n+1,w4.heap.size,uX q,z1,z2,z3,d1,l ++ [(y1,y2,y3)],rfl,rfl,rfl,?_,fA (xI gX5 _ _ _),fA (hp5.chg (S:=[w4.heap.size]) ((((fD.refl _ w5).setCell (.inl (by simp)) 0 _).setCell (.inl (by simp)) 1 _).setCell (.inl (by simp)) 2 _) (by simp;omega) (fun x hx=>by simp;have:=HAL.out x hx;omega)),fA ?_,fA ⟨fun x hx=>by have:=(qC HO4.out x hx).2;omega,by omega⟩,fA (by rw [<- HDR.out];exact HR2.out),?_,?_⟩
     ·rw [zDy]
      split
      ·next e=>have:=HD1.out;rw [e] at this;have:=of_decide_eq_true this;omega
      ·omega
     ·have hne:∀ x ∈ zB a3,x≠w4.heap.size:=fun x hx=>by have:=(qC HO4.out x hx).2;omega
      rw [uD]
      exact rE (rE (rE HO5.out hne 0 _) hne 1 _) hne 2 _
     ·exact rH (((b4.alloc b4.size (vN y1 y2 y3))).trans hb5) b4.size _ _ _
     ·have:=hb5.size
      simp at this ⊢
      omega
    case measure=>simp [zOy];omega
end Go.Proofs.YtogbpifcmhafkaaGreat
