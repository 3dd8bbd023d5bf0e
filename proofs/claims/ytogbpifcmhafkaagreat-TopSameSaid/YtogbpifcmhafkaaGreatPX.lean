/-
 Part PX of the proof.
-/
import Derived.Test.YtogbpifcmhafkaaGreatPS
open Go renaming Calls->iA,World->uA,bodyPost_end->dF,maxLen->fC,results_none->dE
open Go.Lib renaming hid->fA
open Go.Proofs renaming enters_of->yE
open Go.Proofs.Tryz renaming underlying291->iK
open Go.RowKit renaming Hid->jC
open List renaming length_set->lD,mem_singleton->xB
open Nat renaming le_refl->mA,le_trans->pA,lt_of_lt_of_le->tA,zero_le->vC
open Option renaming some->yA
namespace Go.Proofs.YtogbpifcmhafkaaGreat
open Go.RowKit Tryz
open Go.Lib(hid)
set_option linter.unusedVariables false
set_option linter.unusedSimpArgs false
set_option maxRecDepth 100000
set_option maxHeartbeats 16000000
theorem zGV (xs:List Ch) (i s:Int):(vQ xs i s).1.length<=xs.length+1:=by
 have:=nS xs
 unfold vQ
 generalize iD xs=ys at *
 generalize dG (cfn ys i) 0 ys.length=m
 by_cases h1:i<1\/1048576<i
 ·rw [if_pos h1];exact vC _
 rw [if_neg h1]
 by_cases h2:kL (cfn ys i) ys.length=true
 ·rw [if_pos h2];exact vC _
 rw [if_neg h2]
 by_cases h3:32<=ys.length
 ·rw [if_pos h3];exact vC _
 rw [if_neg h3]
 simp only [List.length_append,List.length_take,List.length_drop,List.length_singleton];omega
theorem zAc (f:Ch -> Ch × Int) (xs:List Ch) (t:Int):(tJ f xs t).1.length<=xs.length:=by
 have:=nS xs
 unfold tJ
 split
 ·split
  ·simp
  ·simp only [lD];exact this
 ·simp
theorem zHG (xs:List Ch) (i n v:Int):(wS xs i n v).1.length<=xs.length:=by
 unfold wS
 split
 ·simp
 ·exact zAc _ _ _
theorem zPu (xs:List Nd) (t s:Int):(zEb xs t s).1.length<=xs.length:=by
 have:=sV xs
 unfold zEb
 split
 ·split
  ·simp
  ·split
   ·simp
   ·simp only [lD];exact this
 ·simp
def zGS (ns:List Nd) (cs:List Ch) (a b c:Int):Dr:=if zAp ns b then (ns,jN (wS cs a b c).2 (wS cs a b c).1 cs,(wS cs a b c).2,0) else (ns,cs,5,0)
def zFp (ns:List Nd) (cs:List Ch) (a b:Int):Dr:=(ns,jN (tJ (xM b) cs a).2 (tJ (xM b) cs a).1 cs,(tJ (xM b) cs a).2,0)
theorem zLk {Q:Nat -> Prop} {w w2:uA} {D:Nat} {A B:Option Addr} {c d:Nat} {ns:List Nd} {cs:List Ch} {e n:Int} (hA:rQ Q qH w A c ns) (hB:zBU Q w B d cs) (hb:Below w.heap.size w w2) (hD:w2.heap[D]?=yA (.cells #[.slice A ns.length c,.slice B cs.length d,.slice none 0 0,.int .i64 0,n] 289)) (hQD:∀ x,Q x -> x≠D):zFA Q (w2.setCell ⟨D,3,none⟩ (.int .i64 e)) D ns cs e n:=by
 have hc:fD [D] w2 (w2.setCell ⟨D,3,none⟩ (.int .i64 e)):=(fD.refl _ w2).setCell (.inl (by simp)) _ _
 have hq:∀ x,Q x -> x ∉ [D]:=fun x hx hc=>hQD x hx (by simpa using hc)
 exact ⟨A,c,B,d,by simpa using zD (i:=3) hD (.int .i64 e),(hA.below hb).chg hc hq,(hB.below hb).chg hc hq⟩
theorem zNL (Q:Nat -> Prop) (D:Nat) (ns:List Nd) (cs:List Ch) (x1 x2 x3 a b c:Int) (w:uA) (h:zFA Q w D ns cs 0 0) (hQD:∀ x,Q x -> x≠D) (hQn:∀ x,w.heap.size<=x -> Q x):iA prog 275 #[.pointer (yA ⟨D,0,none⟩),.agg #[x1,x2,x3,a,b,c]] w (zGD Q D (zGS ns cs a b c) w):=by
 obtain ⟨A,cA,B,d,hD,hA,hB⟩:=h.ex
 have hal:=wA w (.cells #[x1,x2,x3,a,b,c] 99)
 have g0:=kA hal hD
 obtain ⟨c0,c1,c2,c3,c4,f0,f1,f3,f4,hlt⟩:=kN g0
 obtain ⟨e0,e1,e2,e3,e4,e5,elt⟩:=zAv (rB w (.cells #[x1,x2,x3,a,b,c] 99))
 have hln:=zHG cs a b c
 have hmx:=hB.in_.max
 have HST:jC (∀ W,Below w.heap.size w W -> iA prog 193 #[.slice A ns.length cA,b] W fun e w'=>e=.returned (.bool (zAp ns b))/\Below W.heap.size W w'):=fA fun W hb=>zFj A cA ns b W (hA.1.below hb)
 have HCL:jC (∀ W,Below w.heap.size w W -> iA prog 277 #[.slice B cs.length d,a,b,c] W (wT (wS cs a b c) W)):=fA fun W hb=>zJF B d cs a b c W (hB.in_.below hb)
 unfold zGS
 generalize wS cs a b c=r at *
 have HA:=fA hA
 have HB:=fA hB
 have HG:=fA g0
 clear hA hB h hD g0
 cases hst:zAp ns b with
 | false =>
  rw [hst] at HST
  rw [if_neg (by decide)]
  clear hst
  go_enter func275,ntmps275
  go_wp2_with fail
  generalize hW:w.alloc (.cells #[x1,x2,x3,a,b,c] 99)=W at *
  clear hW
  go_region_held3 (fun W=>W.cell? ⟨D,0,none⟩=yA (.slice A ns.length cA)/\W.cell? ⟨w.heap.size,4,none⟩=yA (.int .i64 b)) (first | exact ⟨c0,e4⟩ | exact ⟨p0,p4⟩) ((go_at_call 193;refine (HST.out _ hal.drew).mono ?_;rintro e w2 ⟨rfl,hb2⟩;have g2:=kA hb2 (iB HG.out);have hw2:=hal.drew.trans (hb2.mono hal.size);obtain ⟨p0,p1,p2,p3,_,q0,q1,q3,_,_⟩:=kN g2;have p4:=((bcell hb2).1 w.heap.size 4 elt).trans e4))
  go_wp2
  refine dF (dE rfl _ _ _) rfl ?_
  exact ⟨rfl,zLk HA.out HB.out hw2 g2 hQD,(fD.of_below hw2:fD [D] w w2).setCell (.inl (by simp)) _ _⟩
 | true =>
  rw [hst] at HST
  rw [if_pos rfl]
  clear hst
  go_enter func275,ntmps275
  go_wp2_with fail
  generalize hW:w.alloc (.cells #[x1,x2,x3,a,b,c] 99)=W at *
  clear hW
  go_region_held3 (fun W=>W.cell? ⟨D,0,none⟩=yA (.slice A ns.length cA)/\W.cell? ⟨w.heap.size,4,none⟩=yA (.int .i64 b)) (first | exact ⟨c0,e4⟩ | exact ⟨p0,p4⟩) ((go_at_call 193;refine (HST.out _ hal.drew).mono ?_;rintro e w2 ⟨rfl,hb2⟩;have g2:=kA hb2 (iB HG.out);have hw2:=hal.drew.trans (hb2.mono hal.size);obtain ⟨p0,p1,p2,p3,_,q0,q1,q3,_,plt⟩:=kN g2;have p4:=((bcell hb2).1 w.heap.size 4 elt).trans e4;have r3:=((bcell hb2).1 w.heap.size 3 elt).trans e3;have r5:=((bcell hb2).1 w.heap.size 5 elt).trans e5))
  go_wp2_with fail
  clear c0 c1 c2 c3 c4 f0 f1 f3 f4 e0 e1 e2 e3 e4 e5 hb2
  go_region_law (first
   | (go_simp;go_at_call 277;refine (HCL.out _ hw2.drew).mono ?_;rintro e w3 ⟨A3,c3',rfl,own3,hb3⟩;have g3:=kA hb3 (iB g2);have hw3:=hw2.drew.trans (hb3.mono hw2.size);have HO3:=fA own3;clear own3;(try go_simp))
   | (go_simp;go_at_call 276;refine (zCw A3 _ c3' r.2 g3).mono ?_;rintro e w4 ⟨rfl,hc4,g4⟩;(try go_simp)))
  all_goals (
   refine dF (dE rfl _ _ _) rfl ?_
   exact ⟨rfl,zJL HA.out HB.out hw3 HO3.out hw2.size (by omega) hc4 g4 hQD hQn,fD.pre hw3 hc4⟩)
theorem zNM (Q:Nat -> Prop) (D:Nat) (ns:List Nd) (cs:List Ch) (x1 x2 x3 a b c:Int) (w:uA) (h:zFA Q w D ns cs 0 0) (hQD:∀ x,Q x -> x≠D) (hQn:∀ x,w.heap.size<=x -> Q x):iA prog 278 #[.pointer (yA ⟨D,0,none⟩),.agg #[x1,x2,x3,a,b,c]] w (zGD Q D (zFp ns cs a b) w):=by
 obtain ⟨A,cA,B,d,hD,hA,hB⟩:=h.ex
 have hal:=wA w (.cells #[x1,x2,x3,a,b,c] 99)
 have g0:=kA hal hD
 obtain ⟨c0,c1,c2,c3,c4,f0,f1,f3,f4,hlt⟩:=kN g0
 obtain ⟨e0,e1,e2,e3,e4,e5,elt⟩:=zAv (rB w (.cells #[x1,x2,x3,a,b,c] 99))
 have hln:=zAc (xM b) cs a
 have hmx:=hB.in_.max
 have HCL:jC (∀ W,Below w.heap.size w W -> iA prog 279 #[.slice B cs.length d,a,b] W (wT (tJ (xM b) cs a) W)):=fA fun W hb=>zHr B d cs a b W (hB.in_.below hb)
 unfold zFp
 generalize tJ (xM b) cs a=r at *
 have HA:=fA hA
 have HB:=fA hB
 have HG:=fA g0
 clear hA hB h hD g0
 go_enter func278,ntmps278
 go_wp2_with fail
 generalize hW:w.alloc (.cells #[x1,x2,x3,a,b,c] 99)=W at *
 clear hW
 go_region_law (first
  | (go_simp;go_at_call 279;refine (HCL.out _ hal.drew).mono ?_;rintro e w3 ⟨A3,c3',rfl,own3,hb3⟩;have g3:=kA hb3 (iB HG.out);have hw3:=hal.drew.trans (hb3.mono hal.size);have HO3:=fA own3;clear own3;(try go_simp))
  | (go_simp;go_at_call 276;refine (zCw A3 _ c3' r.2 g3).mono ?_;rintro e w4 ⟨rfl,hc4,g4⟩;(try go_simp)))
 all_goals (
  refine dF (dE rfl _ _ _) rfl ?_
  exact ⟨rfl,zJL HA.out HB.out hw3 HO3.out hal.size (by omega) hc4 g4 hQD hQn,fD.pre hw3 hc4⟩)
def zQP (ns:List Nd) (cs:List Ch) (a b:Int):Dr:=if b=2/\0<(zKA cs a).length then (ns,cs,8,0) else (jN (zEb ns a b).2 (zEb ns a b).1 ns,cs,(zEb ns a b).2,0)
theorem zNI (Q : Nat -> Prop) (D : Nat) (ns : List Nd) (cs : List Ch) (x1 x2 x3 a b c : Int) (w : uA) (h : zFA Q w D ns cs 0 0) (hQD : ∀ x, Q x -> x ≠ D) (hQn : ∀ x, w.heap.size <= x -> Q x) : iA prog 267 #[.pointer (yA ⟨D, 0, none⟩), .agg #[x1, x2, x3, a, b, c]] w (zGD Q D (zQP ns cs a b) w) := by
 obtain ⟨A,cA,B,d,hD,hA,hB⟩:=h.ex
 have HDL:=fA (eB hD)
 have hal:=wA w (.cells #[x1,x2,x3,a,b,c] 99)
 have g0:=kA hal hD
 obtain ⟨c0,c1,c2,c3,c4,f0,f1,f3,f4,hlt⟩:=kN g0
 obtain ⟨e0,e1,e2,e3,e4,e5,elt⟩:=zAv (rB w (.cells #[x1,x2,x3,a,b,c] 99))
 have hln:=zPu ns a b
 have hmx:=hA.1.max
 have HSE:jC (∀ W,Below w.heap.size w W -> iA prog 269 #[.slice A ns.length cA,a,b] W (zKV (zEb ns a b) W)):=fA fun W hb=>zPt A cA ns a b W (hA.1.below hb)
 have HOF:jC (∀ W,Below w.heap.size w W -> iA prog 268 #[.slice B cs.length d,a] W (mD 3 1 (zKA cs a).length (flat kG (zKA cs a)) W)):=fA fun W hb=>zQF B d cs a W (hB.in_.below hb)
 unfold zQP
 generalize zEb ns a b=r at *
 generalize zKA cs a=os at *
 have HA:=fA hA
 have HB:=fA hB
 have HG:=fA g0
 clear hA hB h hD g0
 by_cases hb2':b=2
 ·subst hb2'
  by_cases hos:0<os.length
  ·have hos':(0:Int)<(os.length:Int):=by omega
   rw [if_pos ⟨rfl,hos⟩]
   go_enter func267,ntmps267
   go_wp2_with fail
   generalize hW:w.alloc (.cells #[x1,x2,x3,a,.int .i64 2,c] 99)=W at *
   clear hW
   go_region_held3 (fun W=>W.cell? ⟨D,1,none⟩=yA (.slice B cs.length d)/\W.cell? ⟨w.heap.size,3,none⟩=yA (.int .i64 a)/\W.cell? ⟨w.heap.size,4,none⟩=yA (.int .i64 2)) (first | exact ⟨c1,e3,e4⟩ | exact ⟨p1,r3,r4⟩) ((go_at_call 268;refine (HOF.out _ hal.drew).mono ?_;rintro e w2 ⟨A2,c2',rfl,_,hb2⟩;have g2:=kA hb2 (iB HG.out);have hw2:=hal.drew.trans (hb2.mono hal.size);obtain ⟨p0,p1,p2,p3,_,q0,q1,q3,_,plt⟩:=kN g2;have r3:=((bcell hb2).1 w.heap.size 3 elt).trans e3;have r4:=((bcell hb2).1 w.heap.size 4 elt).trans e4))
   go_wp2
   refine dF (dE rfl _ _ _) rfl ?_
   exact ⟨rfl,zLk HA.out HB.out hw2 g2 hQD,(fD.of_below hw2:fD [D] w w2).setCell (.inl (by simp)) _ _⟩
  ·have hos':¬ (0:Int)<(os.length:Int):=by omega
   rw [if_neg (fun h=>hos h.2)]
   go_enter func267,ntmps267
   go_wp2_with fail
   generalize hW:w.alloc (.cells #[x1,x2,x3,a,.int .i64 2,c] 99)=W at *
   clear hW
   go_region_held3 (fun W=>W.cell? ⟨D,1,none⟩=yA (.slice B cs.length d)/\W.cell? ⟨w.heap.size,3,none⟩=yA (.int .i64 a)/\W.cell? ⟨w.heap.size,4,none⟩=yA (.int .i64 2)) (first | exact ⟨c1,e3,e4⟩ | exact ⟨p1,r3,r4⟩) ((go_at_call 268;refine (HOF.out _ hal.drew).mono ?_;rintro e w2 ⟨A2,c2',rfl,_,hb2⟩;have g2:=kA hb2 (iB HG.out);have hw2:=hal.drew.trans (hb2.mono hal.size);obtain ⟨p0,p1,p2,p3,_,q0,q1,q3,_,plt⟩:=kN g2;have r3:=((bcell hb2).1 w.heap.size 3 elt).trans e3;have r4:=((bcell hb2).1 w.heap.size 4 elt).trans e4))
   go_wp2_with fail
   clear c0 c1 c2 c3 c4 f0 f1 f3 f4 e0 e1 e2 e3 e4 e5 hb2
   go_region_law (first
    | (go_simp;go_at_call 269;refine (HSE.out _ hw2.drew).mono ?_;rintro e w3 ⟨A3,c3',rfl,own3,hb3⟩;have g3:=kA hb3 (iB g2);have hw3:=hw2.drew.trans (hb3.mono hw2.size);have HO3:=fA own3;clear own3;(try go_simp))
    | (go_simp;go_at_call 265;refine (zBm A3 _ c3' r.2 g3).mono ?_;rintro e w4 ⟨rfl,hc4,g4⟩;(try go_simp)))
   all_goals (
    refine dF (dE rfl _ _ _) rfl ?_
    exact ⟨rfl,zJM HA.out HB.out hw3 HO3.out hw2.size (by omega) hc4 g4 hQD hQn,fD.pre hw3 hc4⟩)
 ·rw [if_neg (fun h=>hb2' h.1)]
  go_enter func267,ntmps267
  go_wp2_with fail
  generalize hW:w.alloc (.cells #[x1,x2,x3,a,b,c] 99)=W at *
  clear hW
  go_quiet (fail)
  go_wp2_with fail
  have hw2:Below w.heap.size w (W.drewN nq):=Below.many hal nq
  have g2:(W.drewN nq).heap[D]?=_:=HG.out
  have r3:(W.drewN nq).cell? ⟨w.heap.size,3,none⟩=_:=e3
  have r4:(W.drewN nq).cell? ⟨w.heap.size,4,none⟩=_:=e4
  have rlt:w.heap.size<(W.drewN nq).heap.size:=elt
  clear c0 c1 c2 c3 c4 f0 f1 f3 f4 e0 e1 e2 e3 e4 e5
  generalize W.drewN nq=W2 at *
  obtain ⟨p0,p1,p2,p3,_,q0,q1,q3,_,plt⟩:=kN g2
  go_region_law (first
   | (go_simp;go_at_call 269;refine (HSE.out _ hw2.drew).mono ?_;rintro e w3 ⟨A3,c3',rfl,own3,hb3⟩;have g3:=kA hb3 (iB g2);have hw3:=hw2.drew.trans (hb3.mono hw2.size);have HO3:=fA own3;clear own3;(try go_simp))
   | (go_simp;go_at_call 265;refine (zBm A3 _ c3' r.2 g3).mono ?_;rintro e w4 ⟨rfl,hc4,g4⟩;(try go_simp)))
  all_goals (
   refine dF (dE rfl _ _ _) rfl ?_
   exact ⟨rfl,zJM HA.out HB.out hw3 HO3.out hw2.size (by omega) hc4 g4 hQD hQn,fD.pre hw3 hc4⟩)
def PutC (g:Nat) (put:List Ch -> Int -> Int -> List Ch × Int):Prop:=∀ (W:uA) (B:Option Addr) (d:Nat) (cs:List Ch) (i s:Int),vM W B d cs -> iA prog g #[.slice B cs.length d,i,.int .u32 s] W (wT (put cs i s) W)
def zPO (put:List Ch -> Int -> Int -> List Ch × Int) (cs:List Ch) (a b:Int):Int:=(rF (jN (put cs a b).2 (put cs a b).1 cs) a).1.2.1
def zBq (put:List Ch -> Int -> Int -> List Ch × Int) (ns:List Nd) (cs:List Ch) (a b:Int):Dr:=if b<0\/4294967295<b then (ns,cs,1,0) else (ns,jN (put cs a b).2 (put cs a b).1 cs,(put cs a b).2,zPO put cs a b)
theorem dNum {Q:Nat -> Prop} {w2 w3:uA} {D:Nat} {ns:List Nd} {cs:List Ch} {e n m:Int} (h:zFA Q w2 D ns cs e n) (hb:Below w2.heap.size w2 w3) (hQD:∀ x,Q x -> x≠D):zFA Q (w3.setCell ⟨D,4,none⟩ (.int .i64 m)) D ns cs e m:=by
 obtain ⟨A,c,B,d,hD,hA,hB⟩:=h.ex
 have hc:fD [D] w3 (w3.setCell ⟨D,4,none⟩ (.int .i64 m)):=(fD.refl _ w3).setCell (.inl (by simp)) _ _
 have hq:∀ x,Q x -> x ∉ [D]:=fun x hx hc=>hQD x hx (by simpa using hc)
 exact ⟨A,c,B,d,by simpa using zD (i:=4) (kA hb hD) (.int .i64 m),(hA.below hb).chg hc hq,(hB.below hb).chg hc hq⟩
theorem zEx (gf:Nat) (eg:∀ args w,(callFunc gf args).run prog w=.ok (.enter gf args) w) (put:List Ch -> Int -> Int -> List Ch × Int) (hput:PutC gf put) (hpl:∀ cs i s,(put cs i s).1.length<=cs.length+1) (Q:Nat -> Prop) (D:Nat) (ns:List Nd) (cs:List Ch) (x1 x2 x3 a b c:Int) (w:uA) (h:zFA Q w D ns cs 0 0) (hQD:∀ x,Q x -> x≠D) (hQn:∀ x,w.heap.size<=x -> Q x) (hs:cs.length<1000000):iA prog 271 #[.pointer (yA ⟨D,0,none⟩),.agg #[x1,x2,x3,a,b,c],.func (.func gf) #[] #[]] w (zGD Q D (zBq put ns cs a b) w):=by
 obtain ⟨A,cA,B,d,hD,hA,hB⟩:=h.ex
 have HDL:=fA (eB hD)
 have hal:=wA w (.cells #[x1,x2,x3,a,b,c] 99)
 have g0:=kA hal hD
 obtain ⟨c0,c1,c2,c3,c4,f0,f1,f3,f4,hlt⟩:=kN g0
 obtain ⟨e0,e1,e2,e3,e4,e5,elt⟩:=zAv (rB w (.cells #[x1,x2,x3,a,b,c] 99))
 have hln:=hpl cs a b
 have hmx:=hB.in_.max
 have HPU:jC (∀ W,Below w.heap.size w W -> iA prog gf #[.slice B cs.length d,a,.int .u32 b] W (wT (put cs a b) W)):=fA fun W hb=>hput W B d cs a b (hB.in_.below hb)
 have HA:=fA hA
 have HB:=fA hB
 have HG:=fA g0
 clear hA hB h hD g0
 unfold zBq
 by_cases hb1:b<0
 ·rw [if_pos (.inl hb1)]
  go_enter func271,ntmps271
  go_wp2_with fail
  generalize hW:w.alloc (.cells #[x1,x2,x3,a,b,c] 99)=W at *
  clear hW
  go_wp2
  refine dF (dE rfl _ _ _) rfl ?_
  exact ⟨rfl,zLk HA.out HB.out hal HG.out hQD,(fD.of_below hal:fD [D] w W).setCell (.inl (by simp)) _ _⟩
 by_cases hb2':4294967295<b
 ·rw [if_pos (.inr hb2')]
  go_enter func271,ntmps271
  go_wp2_with fail
  generalize hW:w.alloc (.cells #[x1,x2,x3,a,b,c] 99)=W at *
  clear hW
  go_wp2
  refine dF (dE rfl _ _ _) rfl ?_
  exact ⟨rfl,zLk HA.out HB.out hal HG.out hQD,(fD.of_below hal:fD [D] w W).setCell (.inl (by simp)) _ _⟩
 rw [if_neg (by omega)]
 have hwrap:IntKind.u32.wrap b=b:=by rw [IntKind.wrap_u32];omega
 obtain ⟨nm,hnm⟩:∃ nm,nm=zPO put cs a b:=⟨_,rfl⟩
 have HNM:=fA hnm
 rw [<- hnm]
 unfold zPO at HNM
 clear hnm hpl hput
 generalize put cs a b=r at *
 obtain ⟨cs2,hcs2⟩:∃ cs2,cs2=jN r.2 r.1 cs:=⟨_,rfl⟩
 have HC2:=fA hcs2
 rw [<- hcs2] at HNM ⊢
 clear hcs2
 go_enter func271,ntmps271
 go_wp2_with fail
 generalize hW:w.alloc (.cells #[x1,x2,x3,a,b,c] 99)=W at *
 clear hW
 go_cut [] (fun wx=>zFA Q wx D ns cs2 r.2 0/\fD [D] w wx/\wx.cell? ⟨w.heap.size,3,none⟩=yA (.int .i64 a)/\w.heap.size<wx.heap.size)
 case first =>
  go_region_law (first
   | (go_simp;go_at_fn gf;refine (HPU.out _ hal.drew).mono ?_;rintro e w3 ⟨A3,c3',rfl,own3,hb3⟩;have g3:=kA hb3 (iB HG.out);have hw3:=hal.drew.trans (hb3.mono hal.size);have HO3:=fA own3;have r3:=((bcell hb3).1 w.heap.size 3 elt).trans e3;have r3lt:=tA elt hb3.size;clear own3;(try go_simp))
   | (go_simp;go_at_call 276;refine (zCw A3 _ c3' r.2 g3).mono ?_;rintro e w4 ⟨rfl,hc4,g4⟩;have hD4:=zJL HA.out HB.out hw3 HO3.out hal.size (by omega) hc4 g4 hQD hQn;rw [<- HC2.out] at hD4;have hC4:=(fD.pre hw3 hc4:fD [D] w w4);have hx4:=(hc4.cell (o:=3) r3lt (by have:=HDL.out;simp;omega)).trans r3;have hs4:=tA r3lt hc4.size;(try go_simp)))
  all_goals (go_wp2_with fail;go_meet)
  all_goals exact ⟨hD4,hC4,hx4,hs4⟩
 case rest =>
  obtain ⟨hD4,hC4,hx4,hwl⟩:=‹zFA _ _ _ _ _ _ _/\_›
  generalize wc=w4 at *
  have HD4:=fA hD4
  obtain ⟨A4,cA4,B4,d4,hDc,hA4,hB4⟩:=hD4.ex
  have HFC:jC (∀ W',Below w4.heap.size w4 W' -> iA prog 30 #[.slice B4 cs2.length d4,a] W' (zQZ (rF cs2 a) W')):=fA fun W' hb=>mS B4 d4 cs2 a W' (hB4.in_.below hb)
  obtain ⟨q0,q1,q2,q3,q4,s0,s1,s3,s4,qlt⟩:=kN hDc
  have GD:=fA hDc
  have hw0:=xC w4
  clear hD4 hA4 hB4 hDc hw0
  obtain ⟨⟨⟨y1,y2,y3,y4⟩,fd⟩,hfc⟩:∃ r,r=rF cs2 a:=⟨_,rfl⟩
  rw [<- hfc] at HFC HNM
  simp only at HNM
  clear hfc
  go_wp2_with fail
  go_cut [6] (fun p wx=>∃ X,p=.pointer (yA ⟨X,0,none⟩)/\wx.cell? ⟨X,1,none⟩=yA (.int .i64 y2)/\Below w4.heap.size w4 wx)
  case first =>
   go_region_law (go_simp;go_at_call 30;refine (HFC.out _ (by first | exact (xC w4).drew | exact (wA w4 _).drew | exact (xC w4) | exact (wA w4 _))).mono ?_;rintro e w5 ⟨A5,c5,rfl,own5,_,hb5⟩;have g5:w5.heap[D]?=_:=(by first | exact kA hb5 (iB GD.out) | exact kA hb5 (iB (zF GD.out (.cells #[.int .i64 0,.int .i64 0,.int .u32 0,.slice none 0 0] 65))));obtain ⟨t0,t1,t2,t3,t4,v0,v1,v3,v4,tlt⟩:=kN g5;have hb5':Below w4.heap.size w4 w5:=(by first | exact (xC w4).drew.trans hb5 | exact (wA w4 _).drew.trans (hb5.mono (wA w4 _).size));(try (have k5:=kA hb5 (iB (rB w4 (.cells #[.int .i64 0,.int .i64 0,.int .u32 0,.slice none 0 0] 65)));obtain ⟨l0,l1,l2,l3,lf0,lf1,lf2,lf3,llt⟩:=nH k5));(try go_simp))
   all_goals (go_wp2_with fail;go_meet)
   all_goals first
    | with_reducible exact ⟨_,rfl,(nH (rB w5 _)).2.1,hb5'.alloc hb5'.size _⟩
    | with_reducible exact ⟨_,rfl,(nH (pT k5 _ _ _ _)).2.1,mN hb5' (mA _) _ _ _ _⟩
  case rest =>
   obtain ⟨X,rfl,hX,hbx⟩:=‹∃ X,_/\_›
   have g6:=kA hbx GD.out
   obtain ⟨n0,n1,n2,n3,n4,_,_,_,nf4,nlt⟩:=kN g6
   have HX:=fA (dNum (m:=nm) HD4.out hbx hQD)
   have HNM2:=HNM.out
   subst HNM2
   go_wp2
   refine dF (dE rfl _ _ _) rfl ?_
   exact ⟨rfl,HX.out,(hC4.below hbx).setCell (.inl (by simp)) _ _⟩
theorem zNJ (Q:Nat -> Prop) (D:Nat) (ns:List Nd) (cs:List Ch) (x1 x2 x3 a b c:Int) (w:uA) (h:zFA Q w D ns cs 0 0) (hQD:∀ x,Q x -> x≠D) (hQn:∀ x,w.heap.size<=x -> Q x) (hs:cs.length<1000000):iA prog 270 #[.pointer (yA ⟨D,0,none⟩),.agg #[x1,x2,x3,a,b,c]] w (zGD Q D (zBq vQ ns cs a b) w):=by
 have hal:=wA w (.cells #[x1,x2,x3,a,b,c] 99)
 obtain ⟨e0,e1,e2,e3,e4,e5,elt⟩:=zAv (rB w (.cells #[x1,x2,x3,a,b,c] 99))
 have HWR:=fA (fun (hD:zFA Q (w.alloc (.cells #[x1,x2,x3,a,b,c] 99)) D ns cs 0 0)=>zEx 272 (yE func272 (by kernel_rfl) rfl) vQ (fun W B d cs i s h=>zHR B d cs i s W h) zGV Q D ns cs x1 x2 x3 a b c (w.alloc (.cells #[x1,x2,x3,a,b,c] 99)) hD hQD (fun x hx=>hQn x (pA hal.size hx)) hs)
 have hDa:zFA Q (w.alloc (.cells #[x1,x2,x3,a,b,c] 99)) D ns cs 0 0:=by
  obtain ⟨A,cA,B,d,hD,hA,hB⟩:=h.ex
  exact ⟨A,cA,B,d,kA hal hD,hA.below hal,hB.below hal⟩
 have HW:=fA (HWR.out hDa)
 clear h hDa HWR
 go_enter func270,ntmps270
 go_wp2_with (go_at_call 271;refine HW.out.mono ?_;rintro e w2 ⟨rfl,hD2,hC2⟩)
 refine dF (dE rfl _ _ _) rfl ?_
 exact ⟨rfl,hD2,fD.pre hal hC2⟩
theorem zNK (Q:Nat -> Prop) (D:Nat) (ns:List Nd) (cs:List Ch) (x1 x2 x3 a b c:Int) (w:uA) (h:zFA Q w D ns cs 0 0) (hQD:∀ x,Q x -> x≠D) (hQn:∀ x,w.heap.size<=x -> Q x) (hs:cs.length<1000000):iA prog 273 #[.pointer (yA ⟨D,0,none⟩),.agg #[x1,x2,x3,a,b,c]] w (zGD Q D (zBq (fun cs i s=>tJ (vW s) cs i) ns cs a b) w):=by
 have hal:=wA w (.cells #[x1,x2,x3,a,b,c] 99)
 obtain ⟨e0,e1,e2,e3,e4,e5,elt⟩:=zAv (rB w (.cells #[x1,x2,x3,a,b,c] 99))
 have HWR:=fA (fun (hD:zFA Q (w.alloc (.cells #[x1,x2,x3,a,b,c] 99)) D ns cs 0 0)=>zEx 274 (yE func274 (by kernel_rfl) rfl) (fun cs i s=>tJ (vW s) cs i) (fun W B d cs i s h=>zKT B d cs i s W h) (fun cs i s=>Nat.le_succ_of_le (zAc _ _ _)) Q D ns cs x1 x2 x3 a b c (w.alloc (.cells #[x1,x2,x3,a,b,c] 99)) hD hQD (fun x hx=>hQn x (pA hal.size hx)) hs)
 have hDa:zFA Q (w.alloc (.cells #[x1,x2,x3,a,b,c] 99)) D ns cs 0 0:=by
  obtain ⟨A,cA,B,d,hD,hA,hB⟩:=h.ex
  exact ⟨A,cA,B,d,kA hal hD,hA.below hal,hB.below hal⟩
 have HW:=fA (HWR.out hDa)
 clear h hDa HWR
 go_enter func273,ntmps273
 go_wp2_with (go_at_call 271;refine HW.out.mono ?_;rintro e w2 ⟨rfl,hD2,hC2⟩)
 refine dF (dE rfl _ _ _) rfl ?_
 exact ⟨rfl,hD2,fD.pre hal hC2⟩
theorem zNN (w:uA):iA prog 198 #[] w fun e w'=>∃ M,e=.returned (.map (yA M))/\uH w' M 8 [(7,.func (.func 280) #[] #[]),(6,.func (.func 278) #[] #[]),(5,.func (.func 275) #[] #[]),(4,.func (.func 273) #[] #[]),(3,.func (.func 270) #[] #[]),(2,.func (.func 267) #[] #[]),(1,.func (.func 264) #[] #[]),(0,.func (.func 263) #[] #[])]/\w.heap.size<=M/\Below w.heap.size w w':=by
 have hmm:=@run_makeMap prog
 have hm0:=uH.made w
 have hb0:=wA w (.map #[] 0)
 go_enter func198,ntmps198
 go_wp2_with (first
  | (refine wD (n:=0) (l:=[]) rfl 291 290 (.tmp 1) (.const (.int .i64 0)) (.func 263) (by rfl) iK (by rfl) (by rfl) (by rfl) hm0 (by decide) (by unfold fC;decide) ?_;intro w1 hm1 hc1)
  | (refine wD (n:=1) (l:=[(0,.func (.func 263) #[] #[])]) rfl 291 290 (.tmp 1) (.const (.int .i64 1)) (.func 264) (by rfl) iK (by rfl) (by rfl) (by rfl) hm1 (by decide) (by unfold fC;decide) ?_;intro w2 hm2 hc2)
  | (refine wD (n:=2) (l:=[(1,.func (.func 264) #[] #[]),(0,.func (.func 263) #[] #[])]) rfl 291 290 (.tmp 1) (.const (.int .i64 2)) (.func 267) (by rfl) iK (by rfl) (by rfl) (by rfl) hm2 (by decide) (by unfold fC;decide) ?_;intro w3 hm3 hc3)
  | (refine wD (n:=3) (l:=[(2,.func (.func 267) #[] #[]),(1,.func (.func 264) #[] #[]),(0,.func (.func 263) #[] #[])]) rfl 291 290 (.tmp 1) (.const (.int .i64 3)) (.func 270) (by rfl) iK (by rfl) (by rfl) (by rfl) hm3 (by decide) (by unfold fC;decide) ?_;intro w4 hm4 hc4)
  | (refine wD (n:=4) (l:=[(3,.func (.func 270) #[] #[]),(2,.func (.func 267) #[] #[]),(1,.func (.func 264) #[] #[]),(0,.func (.func 263) #[] #[])]) rfl 291 290 (.tmp 1) (.const (.int .i64 4)) (.func 273) (by rfl) iK (by rfl) (by rfl) (by rfl) hm4 (by decide) (by unfold fC;decide) ?_;intro w5 hm5 hc5)
  | (refine wD (n:=5) (l:=[(4,.func (.func 273) #[] #[]),(3,.func (.func 270) #[] #[]),(2,.func (.func 267) #[] #[]),(1,.func (.func 264) #[] #[]),(0,.func (.func 263) #[] #[])]) rfl 291 290 (.tmp 1) (.const (.int .i64 5)) (.func 275) (by rfl) iK (by rfl) (by rfl) (by rfl) hm5 (by decide) (by unfold fC;decide) ?_;intro w6 hm6 hc6)
  | (refine wD (n:=6) (l:=[(5,.func (.func 275) #[] #[]),(4,.func (.func 273) #[] #[]),(3,.func (.func 270) #[] #[]),(2,.func (.func 267) #[] #[]),(1,.func (.func 264) #[] #[]),(0,.func (.func 263) #[] #[])]) rfl 291 290 (.tmp 1) (.const (.int .i64 6)) (.func 278) (by rfl) iK (by rfl) (by rfl) (by rfl) hm6 (by decide) (by unfold fC;decide) ?_;intro w7 hm7 hc7)
  | (refine wD (n:=7) (l:=[(6,.func (.func 278) #[] #[]),(5,.func (.func 275) #[] #[]),(4,.func (.func 273) #[] #[]),(3,.func (.func 270) #[] #[]),(2,.func (.func 267) #[] #[]),(1,.func (.func 264) #[] #[]),(0,.func (.func 263) #[] #[])]) rfl 291 290 (.tmp 1) (.const (.int .i64 7)) (.func 280) (by rfl) iK (by rfl) (by rfl) (by rfl) hm7 (by decide) (by unfold fC;decide) ?_;intro w8 hm8 hc8))
 go_ret
 have q:∀ (a b:uA),fD [w.heap.size] a b -> w.heap.size<=a.heap.size -> Below w.heap.size a b:=fun a b hc hs=>hc.to_below (fun x hx=>by rw [xB] at hx;omega) hs
 have e0:=hb0.size
 have hb1:=hb0.trans (q _ _ hc1 hb0.size)
 have hb2:=hb1.trans (q _ _ hc2 hb1.size)
 have hb3:=hb2.trans (q _ _ hc3 hb2.size)
 have hb4:=hb3.trans (q _ _ hc4 hb3.size)
 have hb5:=hb4.trans (q _ _ hc5 hb4.size)
 have hb6:=hb5.trans (q _ _ hc6 hb5.size)
 have hb7:=hb6.trans (q _ _ hc7 hb6.size)
 have hb8:=hb7.trans (q _ _ hc8 hb7.size)
 exact ⟨_,rfl,hm8,mA _,hb8⟩
def cmdL:List (Int × Value):=[(7,.func (.func 280) #[] #[]),(6,.func (.func 278) #[] #[]),(5,.func (.func 275) #[] #[]),(4,.func (.func 273) #[] #[]),(3,.func (.func 270) #[] #[]),(2,.func (.func 267) #[] #[]),(1,.func (.func 264) #[] #[]),(0,.func (.func 263) #[] #[])]
def zKy (e n:Int):Int:=if e=0 then n else wrap64 (-e)
theorem zKz (e n:Int) (w:uA):iA prog 199 #[.agg #[e,n]] w fun en w'=>en=.returned (.int .i64 (zKy e n))/\Below w.heap.size w w':=by
 have hal:=wA w (.cells #[e,n] 287)
 unfold zKy
 by_cases he:e=0
 ·subst he
  rw [if_pos rfl]
  go_enter func199,ntmps199
  go_wp2
  go_ret
  exact ⟨rfl,hal⟩
 ·rw [if_neg he]
  go_enter func199,ntmps199
  go_wp2
  go_ret
  exact ⟨rfl,hal⟩
def zGE (Q:Nat -> Prop) (r:Dr) (w:uA) (en:Ending) (w':uA):Prop:=∃ A c B d,en=.returned (.tuple #[.agg #[.slice A r.1.length c,.slice B r.2.1.length d,.slice none 0 0],.int .i64 (zKy r.2.2.1 r.2.2.2)])/\rQ Q qH w' A c r.1/\zBU Q w' B d r.2.1/\Below w.heap.size w w'
theorem iY (Q:Nat -> Prop) (A B:Option Addr) (c d:Nat) (ns:List Nd) (cs:List Ch) (x2 K p q' r:Int) (f:Nat) (eg:∀ args w,(callFunc f args).run prog w=.ok (.enter f args) w) (hwf:(Lit.int .i64 K).wf=true) (hlk:yT cmdL K=yA (.func (.func f) #[] #[])) (z:Dr) (w:uA) (hA:vS (fun x=>Q x/\x<w.heap.size) qH w A c ns) (hB:zCj (fun x=>Q x/\x<w.heap.size) w B d cs) (hQn:∀ x,w.heap.size<=x -> Q x)
  (hf:∀ (Q':Nat -> Prop) (D:Nat) (W:uA),zFA Q' W D ns cs 0 0 -> (∀ x,Q' x -> x≠D) -> (∀ x,W.heap.size<=x -> Q' x) -> iA prog f #[.pointer (yA ⟨D,0,none⟩),.agg #[.int .i64 0,x2,K,p,q',r]] W (zGD Q' D z W)) :
  iA prog 116 #[.agg #[.slice A ns.length c,.slice B cs.length d,.slice none 0 0],.agg #[.int .i64 0,x2,K,p,q',r]] w (zGE Q z w):=by
 obtain ⟨W,hW⟩:∃ W,W=(((w.alloc (.cells #[.slice A ns.length c,.slice B cs.length d,.slice none 0 0] 51)).alloc (.cells #[.int .i64 0,x2,K,p,q',r] 99)).alloc (.cells #[.slice none 0 0,.slice none 0 0,.slice none 0 0] 51)).alloc (.cells #[.slice A ns.length c,.slice B cs.length d,.slice none 0 0,.int .i64 0,.int .i64 0] 289):=⟨_,rfl⟩
 have h1:=wA w (.cells #[.slice A ns.length c,.slice B cs.length d,.slice none 0 0] 51)
 have h2:=h1.alloc h1.size (.cells #[.int .i64 0,x2,K,p,q',r] 99)
 have h3:=h2.alloc h2.size (.cells #[.slice none 0 0,.slice none 0 0,.slice none 0 0] 51)
 have h4:=h3.alloc h3.size (.cells #[.slice A ns.length c,.slice B cs.length d,.slice none 0 0,.int .i64 0,.int .i64 0] 289)
 have e1:(w.alloc (.cells #[.slice A ns.length c,.slice B cs.length d,.slice none 0 0] 51)).heap.size=w.heap.size+1:=by simp
 have e2:((w.alloc (.cells #[.slice A ns.length c,.slice B cs.length d,.slice none 0 0] 51)).alloc (.cells #[.int .i64 0,x2,K,p,q',r] 99)).heap.size=w.heap.size+1+1:=by simp
 have e3:(((w.alloc (.cells #[.slice A ns.length c,.slice B cs.length d,.slice none 0 0] 51)).alloc (.cells #[.int .i64 0,x2,K,p,q',r] 99)).alloc (.cells #[.slice none 0 0,.slice none 0 0,.slice none 0 0] 51)).heap.size=w.heap.size+1+1+1:=by simp
 have gC:W.heap[w.heap.size+1]?=yA (.cells #[.int .i64 0,x2,K,p,q',r] 99):=by
  rw [hW,<- e1];exact zF (zF (rB _ _) _) _
 have gR:W.heap[w.heap.size+1+1]?=yA (.cells #[.slice none 0 0,.slice none 0 0,.slice none 0 0] 51):=by
  rw [hW,<- e2];exact zF (rB _ _) _
 have gD:W.heap[w.heap.size+1+1+1]?=yA (.cells #[.slice A ns.length c,.slice B cs.length d,.slice none 0 0,.int .i64 0,.int .i64 0] 289):=by
  rw [hW,<- e3];exact rB _ _
 rw [<- hW] at h4
 have hFD:W.heap.size=w.heap.size+1+1+1+1:=by rw [hW];simp
 have HFD:=fA hFD
 have HW:=fA hW
 have HF:jC (∀ W2,Below w.heap.size w W2 -> W.heap.size<=W2.heap.size -> W2.heap[w.heap.size+1+1+1]?=yA (.cells #[.slice A ns.length c,.slice B cs.length d,.slice none 0 0,.int .i64 0,.int .i64 0] 289) -> iA prog f #[.pointer (yA ⟨w.heap.size+1+1+1,0,none⟩),.agg #[.int .i64 0,x2,K,p,q',r]] W2 (zGD (fun x=>Q x/\x≠w.heap.size+1+1+1/\x≠w.heap.size+1+1) (w.heap.size+1+1+1) z W2)):=fA fun W2 hb hs hD =>
  hf _ _ W2 ⟨A,c,B,d,hD,(hA.below hb).mono fun x hx=>⟨⟨hx.1,by have:=hx.2;omega,by have:=hx.2;omega⟩,tA hx.2 hb.size⟩,(hB.below hb).mono fun x hx=>⟨⟨hx.1,by have:=hx.2;omega,by have:=hx.2;omega⟩,tA hx.2 hb.size⟩⟩ (fun x hx=>hx.2.1) (fun x hx=>⟨hQn x (by omega),by omega,by omega⟩)
 have HLK:jC (∀ (w2:uA) (M n:Nat),uH w2 M n cmdL -> (Instr.lookup 291 (.map (yA M)) (.int .i64 K) false).run prog w2=.ok (.func (.func f) #[] #[]) w2):=fA fun w2 M n hm=>by
  have:=uH.look hm iK (z:=.nilFunc) (by kernel_rfl) K hwf
  rw [hlk] at this
  exact this
 clear hA hB hf hlk hFD hwf hW h1 h2 h3 e1 e2 e3
 go_enter func116,ntmps116
 go_wp2_with fail
 rw [<- HW.out]
 clear HW
 generalize hF1:w.heap.size+1=F1 at *
 generalize hF2:F1+1=F2 at *
 generalize hF3:F2+1=F3 at *
 obtain ⟨e0,e1,e2,e3,e4',e5,elt⟩:=zAv gC
 have GC:=fA gC
 have GR:=fA gR
 have GD:=fA gD
 clear gC gR gD
 go_cut [7] (fun q wx=>q=.func (.func f) #[] #[]/\jC (wx.heap[F1]?=yA (.cells #[.int .i64 0,x2,K,p,q',r] 99))/\jC (wx.heap[F2]?=yA (.cells #[.slice none 0 0,.slice none 0 0,.slice none 0 0] 51))/\jC (wx.heap[F3]?=yA (.cells #[.slice A ns.length c,.slice B cs.length d,.slice none 0 0,.int .i64 0,.int .i64 0] 289))/\Below w.heap.size w wx/\W.heap.size<=wx.heap.size)
 case first =>
  go_region_law (first
   | (go_simp;go_at_call 198;refine (zNN _).mono ?_;rintro e w2 ⟨M,rfl,hm2,hM2,hb2⟩;have HL2:=HLK.out w2 M 8 hm2;have gC2:=kA hb2 (iB GC.out);have GC2:=fA gC2;have GD2:=fA (kA hb2 (iB GD.out));have GR2:=fA (kA hb2 (iB GR.out));have hw2:=h4.drew.trans (hb2.mono h4.size);have hs2:W.heap.size<=w2.heap.size:=hb2.size;obtain ⟨k0,k1,k2,k3,k4,k5,klt⟩:=zAv gC2;clear gC2;(try go_simp)))
  all_goals (go_wp2_with fail;go_meet)
  all_goals exact ⟨rfl,GC2,GR2,GD2,hw2,hs2⟩
 case rest =>
  obtain ⟨rfl,GC2,GR2,GD2,hw2,hs2⟩:=‹_=_/\_›
  generalize wc=w2 at *
  clear GC GR GD h4 e0 e1 e2 e3 e4' e5 elt HLK
  have hnn:∀ W,(binOp .neq 290 (.func (.func f) #[] #[]) .nilFunc).run prog W=.ok (.bool true) W:=fun _=>by rfl
  obtain ⟨k0,k1,k2,k3,k4,k5,klt⟩:=zAv GC2.out
  have HF2:=HF.out w2 hw2 hs2 GD2.out
  have HFF:=fA HF2
  clear HF2
  have hF13:F2≠F3:=by omega
  go_wp2_with (go_at_fn f;refine HFF.out.mono ?_;rintro e w3 ⟨rfl,hD3,hc3⟩)
  obtain ⟨z1,z2,z3,z4⟩:=z
  simp only at hD3 ⊢
  obtain ⟨A3,cA3,B3,cB3,g3,hA3,hB3⟩:=hD3.ex
  have gR3:=hc3.keep GR2.out (by simpa using hF13)
  have hw3:=hw2.trans (hc3.to_below (B:=w.heap.size) (fun x hx=>by rw [xB] at hx;omega) hw2.size)
  have HA3:=fA hA3
  have HB3:=fA hB3
  clear GC2 GR2 GD2 hc3 k0 k1 k2 k3 k4 k5 klt hnn hA3 hB3 hD3 HFF HF
  obtain ⟨d0,d1,d2,d3,d4,_,_,_,_,dlt⟩:=kN g3
  have hs3:=hw3.size
  obtain ⟨r0,r1,r2,rf0,rf1,rf2,rlt⟩:=vH gR3
  have G3:=fA g3
  have GR3:=fA gR3
  clear g3 gR3
  go_cut [5] (fun q wx=>q=.int .i64 (zKy z3 z4)/\jC (wx.heap[F2]?=yA (.cells #[.slice A3 z1.length cA3,.slice B3 z2.length cB3,.slice none 0 0] 51))/\∃ w4,Below w3.heap.size w3 w4/\wx=zDB w4 F2 (.slice A3 z1.length cA3) (.slice B3 z2.length cB3) (.slice none 0 0))
  case first =>
   go_region_law (first
    | (go_simp;go_at_call 199;refine (zKz _ _ _).mono ?_;rintro e w4 ⟨rfl,hb4⟩;have gR4:=kA hb4 (iB GR3.out);have hw4:=(xC w3).drew.trans hb4;obtain ⟨s0,s1,s2,sf0,sf1,sf2,slt⟩:=vH gR4;have gD4:=kA hb4 (iB G3.out);obtain ⟨t0,t1,t2,t3,t4,_,_,_,_,tlt⟩:=kN gD4;(try go_simp)))
   all_goals (go_wp2_with fail;go_meet)
   all_goals exact ⟨rfl,fA (xI gR4 _ _ _),w4,hw4,rfl⟩
  case rest =>
   obtain ⟨rfl,GR5,w4,hw4,hset⟩:=‹_=_/\_›
   obtain ⟨y0,y1,y2,_,_,_,ylt⟩:=vH GR5.out
   have HSET:=fA hset
   clear hset
   go_wp2
   refine bodyPost_ret (v:=.tuple #[.agg #[.slice A3 z1.length cA3,.slice B3 z2.length cB3,.slice none 0 0],.int .i64 (zKy z3 z4)]) (by simp [results,results116,go_sem,y0,y1,y2];try rfl) rfl ?_
   have hb34:=hw3.trans (hw4.mono hw3.size)
   have hcs:fD [F2] w3 wc:=by
    rw [HSET.out]
    exact (((fD.of_below hw4:fD [F2] w3 w4).setCell (.inl (by simp)) 0 _).setCell (.inl (by simp)) 1 _).setCell (.inl (by simp)) 2 _
   have hq:∀ x,(Q x/\x≠F3/\x≠F2) -> x ∉ [F2]:=fun x hx hc=>hx.2.2 (by simpa using hc)
   refine ⟨A3,cA3,B3,cB3,rfl,(HA3.out.chg hcs hq).mono fun x hx=>hx.1,(HB3.out.chg hcs hq).mono fun x hx=>hx.1,?_⟩
   rw [HSET.out]
   exact rH hb34 (by omega) _ _ _
def iX (K p q r:Int) (ns:List Nd) (cs:List Ch):Dr :=
 if K=1 then zRs ns cs p q r else if K=2 then zQP ns cs p q else if K=3 then zBq vQ ns cs p q
 else if K=4 then zBq (fun cs i s=>tJ (vW s) cs i) ns cs p q else if K=5 then zGS ns cs p q r else zFp ns cs p q
theorem zNU (Q:Nat -> Prop) (A B:Option Addr) (c d:Nat) (ns:List Nd) (cs:List Ch) (x2 K p q' r:Int) (w:uA) (hK:K=1\/K=2\/K=3\/K=4\/K=5\/K=6) (hA:vS (fun x=>Q x/\x<w.heap.size) qH w A c ns) (hB:zCj (fun x=>Q x/\x<w.heap.size) w B d cs) (hQn:∀ x,w.heap.size<=x -> Q x) (h1:ns.length<1000000) (h2:cs.length<1000000) :
  iA prog 116 #[.agg #[.slice A ns.length c,.slice B cs.length d,.slice none 0 0],.agg #[.int .i64 0,x2,K,p,q',r]] w (zGE Q (iX K p q' r ns cs) w):=by
 rcases hK with rfl | rfl | rfl | rfl | rfl | rfl
 ·exact iY Q A B c d ns cs x2 1 p q' r 264 (yE func264 (by kernel_rfl) rfl) (by decide) rfl _ w hA hB hQn fun Q' D W hd hq hn=>zNH Q' D ns cs 0 x2 1 p q' r W hd hq hn h1
 ·exact iY Q A B c d ns cs x2 2 p q' r 267 (yE func267 (by kernel_rfl) rfl) (by decide) rfl _ w hA hB hQn fun Q' D W hd hq hn=>zNI Q' D ns cs 0 x2 2 p q' r W hd hq hn
 ·exact iY Q A B c d ns cs x2 3 p q' r 270 (yE func270 (by kernel_rfl) rfl) (by decide) rfl _ w hA hB hQn fun Q' D W hd hq hn=>zNJ Q' D ns cs 0 x2 3 p q' r W hd hq hn h2
 ·exact iY Q A B c d ns cs x2 4 p q' r 273 (yE func273 (by kernel_rfl) rfl) (by decide) rfl _ w hA hB hQn fun Q' D W hd hq hn=>zNK Q' D ns cs 0 x2 4 p q' r W hd hq hn h2
 ·exact iY Q A B c d ns cs x2 5 p q' r 275 (yE func275 (by kernel_rfl) rfl) (by decide) rfl _ w hA hB hQn fun Q' D W hd hq hn=>zNL Q' D ns cs 0 x2 5 p q' r W hd hq hn
 ·exact iY Q A B c d ns cs x2 6 p q' r 278 (yE func278 (by kernel_rfl) rfl) (by decide) rfl _ w hA hB hQn fun Q' D W hd hq hn=>zNM Q' D ns cs 0 x2 6 p q' r W hd hq hn
end Go.Proofs.YtogbpifcmhafkaaGreat
