/-
 Part PZT of the proof.
-/
import Derived.Test.YtogbpifcmhafkaaGreatPZQ
import Derived.Test.YtogbpifcmhafkaaGreatPZS
open Go renaming Calls->iA,Value->uB,World->uA,maxLen->fC
open Go.Lib renaming hid->fA
open Go.Proofs.Tryz renaming underlying61->eG
open Int renaming le_refl->iS
open List renaming length_append->kB,mem_append->xD,mem_singleton->xB
open Nat renaming le_refl->mA,le_succ->uE,le_trans->pA
open Option renaming some->yA
namespace Go.Proofs.YtogbpifcmhafkaaGreat
open Go.RowKit Tryz
open Go.Lib(hid)
set_option linter.unusedVariables false
set_option linter.unusedSimpArgs false
set_option maxRecDepth 100000
set_option maxHeartbeats 16000000
abbrev mv (C g:Nat):uB:=.func (.func g) #[(C,0)] #[]
def zDK (C:Nat):List (Int × uB):=[(11,mv C 21),(8,mv C 20),(7,mv C 20),(6,mv C 20),(5,mv C 19),(2,mv C 18),(1,mv C 17),(0,mv C 16)]
theorem zQW.turn {C:Nat} {n u:Bool} {g b M q:Nat} {l:List (Int × uB)} {w w':uA} (h:zQW C n u g b w) (hm:uH w M q l) (hc:fD [M] w w'):zQW C n u g b w':=by
 obtain ⟨es,clock,hb,_⟩:=hm
 have hne:∀ x o t,w.heap[x]?=yA (.cells o t) -> x ∉ [M]:=fun x o t hx q=>by
  rw [xB] at q
  subst q
  rw [hb] at hx
  cases hx
 obtain ⟨h0,h1,h2,h3⟩:=h
 exact ⟨hc.keep h0 (hne _ _ _ h0),hc.keep h1 (hne _ _ _ h1),hc.keep h2 (hne _ _ _ h2),hc.keep h3 (hne _ _ _ h3)⟩
theorem zQW.below {C:Nat} {n u:Bool} {g b:Nat} {w w':uA} (h:zQW C n u g b w) (hb:Below w.heap.size w w'):zQW C n u g b w':=⟨kA hb h.1,kA hb h.2.1,kA hb h.2.2.1,kA hb h.2.2.2⟩
def zDE (C:Nat) (w:uA) (l:List (Bool × Bool × Nat × uB)):Prop:=∀ x ∈ l,zRl C x.1 x.2.1 x.2.2.1 x.2.2.2 w
theorem zDE.turn {C M q:Nat} {l:List (Int × uB)} {ls:List (Bool × Bool × Nat × uB)} {w w':uA} (h:zDE C w ls) (hm:uH w M q l) (hc:fD [M] w w'):zDE C w' ls:=fun x hx=>by
 obtain ⟨b,h1,h2⟩:=h x hx
 exact ⟨b,h1,h2.turn hm hc⟩
theorem zDE.cons {C:Nat} {n u:Bool} {g:Nat} {fv:uB} {ls:List (Bool × Bool × Nat × uB)} {w w':uA} (h:zDE C w ls) (hb:Below w.heap.size w w') (ha:zRl C n u g fv w'):zDE C w' ((n,u,g,fv) :: ls):=fun x hx=>by
 rcases List.mem_cons.1 hx with rfl | hx
 ·exact ha
 ·obtain ⟨b,h1,h2⟩:=h x hx
  exact ⟨b,h1,h2.below hb⟩
def Cl.tick (c:Cl) (a:Int):Cl × Int:=if a<0\/100<a then (c,1) else ({ c with t:=c.t+a },0)
def Cl.doIt (c:Cl) (k a b d:Int):Cl × Int :=
 if k=0 then c.tick a else if k=1 then c.addN a b d else if k=2 then c.knw 2 a b 0
 else if k=3 then c.atF a true true fun _=>(c.beat a,0) else if k=4 then c.atF a true true fun v=>(c.report a v.s.report,0)
 else if k=5 then (c.round,0) else if k=6\/k=7\/k=8 then c.order k a
 else if k=9 then c.atF a true true fun v=>(c.set1 a v.s false,0) else if k=10 then c.atF a true false fun v=>(c.set1 a v.s.restart true,0)
 else if k=11 then c.write a b else if k=12 then c.atF a true true fun v=>(c.set1 a v.s.scrub v.up,0)
 else if k=13 then c.atF a false false fun v=>(c.set1 a (v.s.spoil b d).1 v.up,(v.s.spoil b d).2) else if k=14 then c.atF a false false fun v=>(c.set1 a v.s.wipe v.up,0) else (c,1)
theorem lL.mono {R:Nat -> Prop} {C:Nat} {L:CL} {n n':Nat} {w:uA} {r:uB} {c':Cl} {e:Ending} {w':uA} (h:lL R C L n w r c' e w') (hn:n<=n'):lL R C L n' w r c' e w':=by
 obtain ⟨h1,L',st,hq⟩:=h
 exact ⟨h1,L',st,fun m hm=>(hq m hm).mono (by omega)⟩
structure oG (c:Cl) (i:Nat):Prop where
 ru:vT c.r=true
 ns:jH 0 c.ns=true
 cs:pG c.cs=true
 t:0<=c.t/\c.t<=100 * (i:Int)
 bs:c.bs.length<=i
 ls:c.ls.length<=100
 ds:c.ds.length<=32 * i
 net:c.net.length<=10000 * i
 od:∀ o ∈ c.net,zGC o
 sv:∀ k v,c.h k=yA v -> bH v.s
def zEi (k:Int) (c:Cl):Prop:=k=5 -> (xO c.ns c.cs c.bs c.ls c.ds c.r c.t).2.2.1.length<=10000
def zRm (R:Nat -> Prop) (C:Nat) (L:CL) (c:Cl) (k a b d:Int) (V:uA) (fv:uB):Prop :=
 (fv=.nilFunc/\c.doIt k a b d=(c,1)/\zEi k c)\/(∃ g,fv=mv C g/\(∀ args w,(callFunc g args).run prog w=.ok (.enter g args) w)/\∀ V',Below V.heap.size V V' -> iA prog g #[.pointer (yA ⟨C,0,none⟩),.agg #[k,a,b,d]] V' (fun e w'=>lL R C L 20 V' (.int .i64 (c.doIt k a b d).2) (c.doIt k a b d).1 e w'/\zEi k c)) \/
 (∃ B,fv=.func (.func 62) #[] #[(B,0),(B+1,0),(B+2,0),(B+3,0)]/\∀ V',Below V.heap.size V V' -> iA prog 62 #[.agg #[k,a,b,d],.pointer (yA ⟨B,0,none⟩),.pointer (yA ⟨B+1,0,none⟩),.pointer (yA ⟨B+2,0,none⟩),.pointer (yA ⟨B+3,0,none⟩)] V' (fun e w'=>lL R C L 20 V' (.int .i64 (c.doIt k a b d).2) (c.doIt k a b d).1 e w'/\zEi k c))
theorem zQs (R:Nat -> Prop) (C:Nat) (L:CL) (c:Cl) (k a b d:Int) (V:uA) (h:iG R V C L c) (hR:∀ x,V.heap.size<=x -> R x) (i:Nat) (hi:i<=99) (ho:oG c i) (ha:Wf a) (hwb:Wf b) (m:Nat) (hm:L.ok m) (hm2:m+40<1000000) (v8 v9 v10 v11 v12 v13 v14:uB) (hA:zDE C V [(false,false,29,v14),(false,false,28,v13),(true,true,27,v12),(true,false,26,v11),(true,true,25,v10),(true,true,24,v9),(true,true,23,v8)]) :
  zRm R C L c k a b d V ((yT ((14,v14) :: (13,v13) :: (12,v12) :: (10,v11) :: (9,v10) :: (4,v9) :: (3,v8) :: zDK C) k).getD .nilFunc):=by
 have ht:=ho.t
 have hbs:=ho.bs
 have hds:=ho.ds
 have hnet:=ho.net
 have hR':∀ {V':uA},Below V.heap.size V V' -> ∀ x,V'.heap.size<=x -> R x:=fun hb x hx=>hR x (pA hb.size hx)
 by_cases e14:k=14
 ·subst e14
  obtain ⟨B,hv,hB⟩:=hA (false,false,29,v14) (by simp)
  refine .inr (.inr ⟨B,hv,fun V' hb => ?_⟩)
  have hRW:∀ {W:uA},Below V'.heap.size V' W -> ∀ x,W.heap.size<=x -> R x:=fun hb2 x hx=>hR' hb x (pA hb2.size hx)
  exact (dS R C L c false false 29 (fun _ _=>rfl) B 14 a b d 20 (fun v=>(c.set1 a v.s.wipe v.up,0)) V' (h.below hb) (hB.below hb) ha (fun W H s S v hb2 hk2 hv2=>(zJE R C L c 14 a b d a H s S v W ((h.below hb).below hb2) hk2 hv2).mono fun e w' q=>q.mono (by omega))).mono fun e w' q=>⟨q,fun q=>absurd q (by decide)⟩
 by_cases e13:k=13
 ·subst e13
  obtain ⟨B,hv,hB⟩:=hA (false,false,28,v13) (by simp)
  refine .inr (.inr ⟨B,hv,fun V' hb => ?_⟩)
  have hRW:∀ {W:uA},Below V'.heap.size V' W -> ∀ x,W.heap.size<=x -> R x:=fun hb2 x hx=>hR' hb x (pA hb2.size hx)
  exact (dS R C L c false false 28 (fun _ _=>rfl) B 13 a b d 20 (fun v=>(c.set1 a (v.s.spoil b d).1 v.up,(v.s.spoil b d).2)) V' (h.below hb) (hB.below hb) ha (fun W H s S v hb2 hk2 hv2=>(zHD R C L c 13 a b d a H s S v W ((h.below hb).below hb2) hk2 hv2 (ho.sv a v hv2) hwb).mono fun e w' q=>q.mono (by omega))).mono fun e w' q=>⟨q,fun q=>absurd q (by decide)⟩
 by_cases e12:k=12
 ·subst e12
  obtain ⟨B,hv,hB⟩:=hA (true,true,27,v12) (by simp)
  refine .inr (.inr ⟨B,hv,fun V' hb => ?_⟩)
  have hRW:∀ {W:uA},Below V'.heap.size V' W -> ∀ x,W.heap.size<=x -> R x:=fun hb2 x hx=>hR' hb x (pA hb2.size hx)
  exact (dS R C L c true true 27 (fun _ _=>rfl) B 12 a b d 20 (fun v=>(c.set1 a v.s.scrub v.up,0)) V' (h.below hb) (hB.below hb) ha (fun W H s S v hb2 hk2 hv2=>(zHC R C L c 12 a b d a H s S v W ((h.below hb).below hb2) hk2 hv2 (ho.sv a v hv2) (hRW hb2)).mono fun e w' q=>q.mono (by omega))).mono fun e w' q=>⟨q,fun q=>absurd q (by decide)⟩
 by_cases e10:k=10
 ·subst e10
  obtain ⟨B,hv,hB⟩:=hA (true,false,26,v11) (by simp)
  refine .inr (.inr ⟨B,hv,fun V' hb => ?_⟩)
  have hRW:∀ {W:uA},Below V'.heap.size V' W -> ∀ x,W.heap.size<=x -> R x:=fun hb2 x hx=>hR' hb x (pA hb2.size hx)
  exact (dS R C L c true false 26 (fun _ _=>rfl) B 10 a b d 20 (fun v=>(c.set1 a v.s.restart true,0)) V' (h.below hb) (hB.below hb) ha (fun W H s S v hb2 hk2 hv2=>(zJC R C L c 10 a b d a H s S v W ((h.below hb).below hb2) hk2 hv2 (ho.sv a v hv2) (hRW hb2)).mono fun e w' q=>q.mono (by omega))).mono fun e w' q=>⟨q,fun q=>absurd q (by decide)⟩
 by_cases e9:k=9
 ·subst e9
  obtain ⟨B,hv,hB⟩:=hA (true,true,25,v10) (by simp)
  refine .inr (.inr ⟨B,hv,fun V' hb => ?_⟩)
  have hRW:∀ {W:uA},Below V'.heap.size V' W -> ∀ x,W.heap.size<=x -> R x:=fun hb2 x hx=>hR' hb x (pA hb2.size hx)
  exact (dS R C L c true true 25 (fun _ _=>rfl) B 9 a b d 20 (fun v=>(c.set1 a v.s false,0)) V' (h.below hb) (hB.below hb) ha (fun W H s S v hb2 hk2 hv2=>(zJA R C L c 9 a b d a H s S v W ((h.below hb).below hb2) hk2 hv2).mono fun e w' q=>q.mono (by omega))).mono fun e w' q=>⟨q,fun q=>absurd q (by decide)⟩
 by_cases e4:k=4
 ·subst e4
  obtain ⟨B,hv,hB⟩:=hA (true,true,24,v9) (by simp)
  refine .inr (.inr ⟨B,hv,fun V' hb => ?_⟩)
  have hRW:∀ {W:uA},Below V'.heap.size V' W -> ∀ x,W.heap.size<=x -> R x:=fun hb2 x hx=>hR' hb x (pA hb2.size hx)
  exact (dS R C L c true true 24 (fun _ _=>rfl) B 4 a b d 20 (fun v=>(c.report a v.s.report,0)) V' (h.below hb) (hB.below hb) ha (fun W H s S v hb2 hk2 hv2=>(zGQ R C L c 4 a b d a H s S v W ((h.below hb).below hb2) hk2 hv2 (ho.sv a v hv2) (hRW hb2) (by omega) ⟨ho.t.1,by omega⟩ ho.ru).mono fun e w' q=>q.mono (by omega))).mono fun e w' q=>⟨q,fun q=>absurd q (by decide)⟩
 by_cases e3:k=3
 ·subst e3
  obtain ⟨B,hv,hB⟩:=hA (true,true,23,v8) (by simp)
  refine .inr (.inr ⟨B,hv,fun V' hb => ?_⟩)
  have hRW:∀ {W:uA},Below V'.heap.size V' W -> ∀ x,W.heap.size<=x -> R x:=fun hb2 x hx=>hR' hb x (pA hb2.size hx)
  exact (dS R C L c true true 23 (fun _ _=>rfl) B 3 a b d 20 (fun _=>(c.beat a,0)) V' (h.below hb) (hB.below hb) ha (fun W H s S v hb2 hk2 hv2=>(zJx R C L c 3 a b d (.pointer (yA ⟨H,0,none⟩)) W ((h.below hb).below hb2) (hRW hb2) (by omega)).mono fun e w' q=>q.mono (by omega))).mono fun e w' q=>⟨q,fun q=>absurd q (by decide)⟩
 by_cases e11:k=11
 ·subst e11
  refine .inr (.inl ⟨21,rfl,fun _ _=>rfl,fun V' hb => ?_⟩)
  exact (zHE R C L c 11 a b d V' (h.below hb) (hR' hb) ho.sv ho.ru ho.ns ho.cs ha m hm (by omega)).mono (fun e w' q=>⟨q.mono (by omega),fun q=>absurd q (by decide)⟩)
 by_cases e8:k=8
 ·subst e8
  refine .inr (.inl ⟨20,rfl,fun _ _=>rfl,fun V' hb => ?_⟩)
  exact (zAW R C L c 8 a b d V' (h.below hb) (hR' hb) ho.sv ho.od (by omega) m hm (by omega)).mono (fun e w' q=>⟨q.mono (by omega),fun q=>absurd q (by decide)⟩)
 by_cases e7:k=7
 ·subst e7
  refine .inr (.inl ⟨20,rfl,fun _ _=>rfl,fun V' hb => ?_⟩)
  exact (zAW R C L c 7 a b d V' (h.below hb) (hR' hb) ho.sv ho.od (by omega) m hm (by omega)).mono (fun e w' q=>⟨q.mono (by omega),fun q=>absurd q (by decide)⟩)
 by_cases e6:k=6
 ·subst e6
  refine .inr (.inl ⟨20,rfl,fun _ _=>rfl,fun V' hb => ?_⟩)
  exact (zAW R C L c 6 a b d V' (h.below hb) (hR' hb) ho.sv ho.od (by omega) m hm (by omega)).mono (fun e w' q=>⟨q.mono (by omega),fun q=>absurd q (by decide)⟩)
 by_cases e5:k=5
 ·subst e5
  refine .inr (.inl ⟨19,rfl,fun _ _=>rfl,fun V' hb => ?_⟩)
  exact (zHB R C L c 5 a b d V' (h.below hb) (hR' hb) ho.ru ⟨ho.t.1,by omega⟩ ho.ns ho.cs ho.ls (by omega) (by omega)).mono (fun e w' q=>⟨q.1.mono (by omega),fun _=>q.2⟩)
 by_cases e2:k=2
 ·subst e2
  refine .inr (.inl ⟨18,rfl,fun _ _=>rfl,fun V' hb => ?_⟩)
  exact (zLI R C L c 2 a b d V' (h.below hb) (hR' hb)).mono (fun e w' q=>⟨q.mono (by omega),fun q=>absurd q (by decide)⟩)
 by_cases e1:k=1
 ·subst e1
  refine .inr (.inl ⟨17,rfl,fun _ _=>rfl,fun V' hb => ?_⟩)
  exact (zLH R C L c 1 a b d V' (h.below hb) (hR' hb) m hm (by omega) ha).mono (fun e w' q=>⟨q.mono (by omega),fun q=>absurd q (by decide)⟩)
 by_cases e0:k=0
 ·subst e0
  refine .inr (.inl ⟨16,rfl,fun _ _=>rfl,fun V' hb => ?_⟩)
  exact (zJD R C L c 0 a b d V' (h.below hb) ⟨ho.t.1,by omega⟩).mono (fun e w' q=>by
    have q2:=q.mono (n':=20) (by omega)
    show lL R C L 20 V' (.int .i64 (c.tick a).2) (c.tick a).1 e w'/\_
    unfold Cl.tick
    by_cases hq:a<0\/100<a
    ·rw [if_pos hq] at q2 ⊢;rw [if_pos hq] at q2;exact ⟨q2,fun q=>absurd q (by decide)⟩
    ·rw [if_neg hq] at q2 ⊢;rw [if_neg hq] at q2;exact ⟨q2,fun q=>absurd q (by decide)⟩)
 refine .inl ⟨?_,?_,fun q=>absurd q e5⟩
 ·have hl:∀ (z:Int) (v:uB) l,¬ k=z -> yT ((z,v) :: l) k=yT l k:=fun z v l hz=>by simp [yT,Ne.symm hz,hz]
  rw [hl _ _ _ e14,hl _ _ _ e13,hl _ _ _ e12,hl _ _ _ e10,hl _ _ _ e9,hl _ _ _ e4,hl _ _ _ e3]
  unfold zDK
  rw [hl _ _ _ e11,hl _ _ _ e8,hl _ _ _ e7,hl _ _ _ e6,hl _ _ _ e5,hl _ _ _ e2,hl _ _ _ e1,hl _ _ _ e0]
  rfl
 ·unfold Cl.doIt
  simp only [e14,e13,e12,e10,e9,e4,e3,e11,e8,e7,e6,e5,e2,e1,e0,if_false,or_self]
theorem zHA (R:Nat -> Prop) (C:Nat) (L:CL) (c:Cl) (k a b d:Int) (w:uA) (h:iG R w C L c) (hR:∀ x,w.heap.size<=x -> R x) (i:Nat) (hi:i<=99) (ho:oG c i) (hwf:Wf k) (ha:Wf a) (hwb:Wf b) (m:Nat) (hm:L.ok m) (hm2:m+40<1000000):iA prog 6 #[.pointer (yA ⟨C,0,none⟩),.agg #[k,a,b,d]] w (fun e w'=>lL R C L 20 w (.int .i64 (c.doIt k a b d).2) (c.doIt k a b d).1 e w'/\zEi k c):=by
 have hmm:=@run_makeMap prog
 have hal:=yI w (.cells #[k,a,b,d] 32) (.map #[] 0)
 have gX:=kA (wA (w.alloc (.cells #[k,a,b,d] 32)) (.map #[] 0)) (rB w (.cells #[k,a,b,d] 32))
 have m0:uH ((w.alloc (.cells #[k,a,b,d] 32)).alloc (.map #[] 0)) (w.heap.size+1) 0 ((zDK C).drop 8):=by
  have:=uH.made (w.alloc (.cells #[k,a,b,d] 32))
  rwa [show (w.alloc (.cells #[k,a,b,d] 32)).heap.size=w.heap.size+1 by simp] at this
 have HC:=fA (fD.refl [w.heap.size+1] ((w.alloc (.cells #[k,a,b,d] 32)).alloc (.map #[] 0)))
 have HH:=fA h
 have GX:=fA gX
 have HAL:=fA hal
 have HT:=fA (fun V (hb:Below w.heap.size w V)=>zQs R C L c k a b d V (h.below hb) (fun x hx=>hR x (pA hb.size hx)) i hi ho ha hwb m hm hm2)
 clear h gX hal ho hR hm
 go_enter func6,ntmps6
 go_upto_region 2 with (first
  | (refine wD (u:=mv C 16) (l:=(zDK C).drop 8) rfl _ _ _ _ _ (by rfl) eG (by rfl) (by rfl) (by rfl) m0 (by decide) (by unfold fC;decide) ?_;intro w1 m1 q1;replace m1:uH w1 (w.heap.size+1) 1 ((zDK C).drop 7):=m1;replace HC:=fA (HC.out.trans q1 fun x hx=>.inl hx);clear m0 q1)
  | (refine wD (u:=mv C 17) (l:=(zDK C).drop 7) rfl _ _ _ _ _ (by rfl) eG (by rfl) (by rfl) (by rfl) m1 (by decide) (by unfold fC;decide) ?_;intro w2 m2 q2;replace m2:uH w2 (w.heap.size+1) 2 ((zDK C).drop 6):=m2;replace HC:=fA (HC.out.trans q2 fun x hx=>.inl hx);clear m1 q2)
  | (refine wD (u:=mv C 18) (l:=(zDK C).drop 6) rfl _ _ _ _ _ (by rfl) eG (by rfl) (by rfl) (by rfl) m2 (by decide) (by unfold fC;decide) ?_;intro w3 m3 q3;replace m3:uH w3 (w.heap.size+1) 3 ((zDK C).drop 5):=m3;replace HC:=fA (HC.out.trans q3 fun x hx=>.inl hx);clear m2 q3)
  | (refine wD (u:=mv C 19) (l:=(zDK C).drop 5) rfl _ _ _ _ _ (by rfl) eG (by rfl) (by rfl) (by rfl) m3 (by decide) (by unfold fC;decide) ?_;intro w4 m4 q4;replace m4:uH w4 (w.heap.size+1) 4 ((zDK C).drop 4):=m4;replace HC:=fA (HC.out.trans q4 fun x hx=>.inl hx);clear m3 q4)
  | (refine wD (u:=mv C 20) (l:=(zDK C).drop 4) rfl _ _ _ _ _ (by rfl) eG (by rfl) (by rfl) (by rfl) m4 (by decide) (by unfold fC;decide) ?_;intro w5 m5 q5;replace m5:uH w5 (w.heap.size+1) 5 ((zDK C).drop 3):=m5;replace HC:=fA (HC.out.trans q5 fun x hx=>.inl hx);clear m4 q5)
  | (refine wD (u:=mv C 20) (l:=(zDK C).drop 3) rfl _ _ _ _ _ (by rfl) eG (by rfl) (by rfl) (by rfl) m5 (by decide) (by unfold fC;decide) ?_;intro w6 m6 q6;replace m6:uH w6 (w.heap.size+1) 6 ((zDK C).drop 2):=m6;replace HC:=fA (HC.out.trans q6 fun x hx=>.inl hx);clear m5 q6)
  | (refine wD (u:=mv C 20) (l:=(zDK C).drop 2) rfl _ _ _ _ _ (by rfl) eG (by rfl) (by rfl) (by rfl) m6 (by decide) (by unfold fC;decide) ?_;intro w7 m7 q7;replace m7:uH w7 (w.heap.size+1) 7 ((zDK C).drop 1):=m7;replace HC:=fA (HC.out.trans q7 fun x hx=>.inl hx);clear m6 q7)
  | (refine wD (u:=mv C 21) (l:=(zDK C).drop 1) rfl _ _ _ _ _ (by rfl) eG (by rfl) (by rfl) (by rfl) m7 (by decide) (by unfold fC;decide) ?_;intro w8 m8 q8;replace m8:uH w8 (w.heap.size+1) 8 ((zDK C).drop 0):=m8;replace HC:=fA (HC.out.trans q8 fun x hx=>.inl hx);clear m7 q8)
  | (go_at_call 22;(with_reducible refine (rV C true true 23 w8).mono ?_);rintro e y8 ⟨v8,rfl,a8,b8⟩;have n8:=m8.below b8;have HA:=fA (zDE.cons (ls:=[]) (w:=w8) (fun x hx=>by cases hx) b8 a8);replace HC:=fA (HC.out.below b8);clear a8 b8 m8)
  | (refine wD (u:=v8) (l:=(zDK C).drop 0) rfl _ _ _ _ _ (by rfl) eG (by rfl) (by rfl) (by rfl) n8 (by decide) (by unfold fC;decide) ?_;intro w9 m9 q9;replace HA:=fA (HA.out.turn n8 q9);replace HC:=fA (HC.out.trans q9 fun x hx=>.inl hx);clear n8 q9)
  | (go_at_call 22;(with_reducible refine (rV C true true 24 w9).mono ?_);rintro e y9 ⟨v9,rfl,a9,b9⟩;have n9:=m9.below b9;replace HA:=fA (HA.out.cons b9 a9);replace HC:=fA (HC.out.below b9);clear a9 b9 m9)
  | (refine wD (u:=v9) (l:=(3,v8) :: zDK C) rfl _ _ _ _ _ (by rfl) eG (by rfl) (by rfl) (by rfl) n9 (by decide) (by unfold fC;decide) ?_;intro w10 m10 q10;replace HA:=fA (HA.out.turn n9 q10);replace HC:=fA (HC.out.trans q10 fun x hx=>.inl hx);clear n9 q10)
  | (go_at_call 22;(with_reducible refine (rV C true true 25 w10).mono ?_);rintro e y10 ⟨v10,rfl,a10,b10⟩;have n10:=m10.below b10;replace HA:=fA (HA.out.cons b10 a10);replace HC:=fA (HC.out.below b10);clear a10 b10 m10)
  | (refine wD (u:=v10) (l:=(4,v9) :: (3,v8) :: zDK C) rfl _ _ _ _ _ (by rfl) eG (by rfl) (by rfl) (by rfl) n10 (by decide) (by unfold fC;decide) ?_;intro w11 m11 q11;replace HA:=fA (HA.out.turn n10 q11);replace HC:=fA (HC.out.trans q11 fun x hx=>.inl hx);clear n10 q11)
  | (go_at_call 22;(with_reducible refine (rV C true false 26 w11).mono ?_);rintro e y11 ⟨v11,rfl,a11,b11⟩;have n11:=m11.below b11;replace HA:=fA (HA.out.cons b11 a11);replace HC:=fA (HC.out.below b11);clear a11 b11 m11)
  | (refine wD (u:=v11) (l:=(9,v10) :: (4,v9) :: (3,v8) :: zDK C) rfl _ _ _ _ _ (by rfl) eG (by rfl) (by rfl) (by rfl) n11 (by decide) (by unfold fC;decide) ?_;intro w12 m12 q12;replace HA:=fA (HA.out.turn n11 q12);replace HC:=fA (HC.out.trans q12 fun x hx=>.inl hx);clear n11 q12)
  | (go_at_call 22;(with_reducible refine (rV C true true 27 w12).mono ?_);rintro e y12 ⟨v12,rfl,a12,b12⟩;have n12:=m12.below b12;replace HA:=fA (HA.out.cons b12 a12);replace HC:=fA (HC.out.below b12);clear a12 b12 m12)
  | (refine wD (u:=v12) (l:=(10,v11) :: (9,v10) :: (4,v9) :: (3,v8) :: zDK C) rfl _ _ _ _ _ (by rfl) eG (by rfl) (by rfl) (by rfl) n12 (by decide) (by unfold fC;decide) ?_;intro w13 m13 q13;replace HA:=fA (HA.out.turn n12 q13);replace HC:=fA (HC.out.trans q13 fun x hx=>.inl hx);clear n12 q13)
  | (go_at_call 22;(with_reducible refine (rV C false false 28 w13).mono ?_);rintro e y13 ⟨v13,rfl,a13,b13⟩;have n13:=m13.below b13;replace HA:=fA (HA.out.cons b13 a13);replace HC:=fA (HC.out.below b13);clear a13 b13 m13)
  | (refine wD (u:=v13) (l:=(12,v12) :: (10,v11) :: (9,v10) :: (4,v9) :: (3,v8) :: zDK C) rfl _ _ _ _ _ (by rfl) eG (by rfl) (by rfl) (by rfl) n13 (by decide) (by unfold fC;decide) ?_;intro w14 m14 q14;replace HA:=fA (HA.out.turn n13 q14);replace HC:=fA (HC.out.trans q14 fun x hx=>.inl hx);clear n13 q14)
  | (go_at_call 22;(with_reducible refine (rV C false false 29 w14).mono ?_);rintro e y14 ⟨v14,rfl,a14,b14⟩;have n14:=m14.below b14;replace HA:=fA (HA.out.cons b14 a14);replace HC:=fA (HC.out.below b14);clear a14 b14 m14)
  | (refine wD (u:=v14) (l:=(13,v13) :: (12,v12) :: (10,v11) :: (9,v10) :: (4,v9) :: (3,v8) :: zDK C) rfl _ _ _ _ _ (by rfl) eG (by rfl) (by rfl) (by rfl) n14 (by decide) (by unfold fC;decide) ?_;intro w15 m15 q15;replace HA:=fA (HA.out.turn n14 q15);replace HC:=fA (HC.out.trans q15 fun x hx=>.inl hx);clear n14 q15))
 have hbW:=HAL.out.trans (HC.out.to_below (fun x hx=>by rw [xB] at hx;omega) HAL.out.size)
 have gY:=HC.out.keep GX.out (by simp)
 have HK:=fA (HT.out w15 hbW _ _ _ _ _ _ _ HA.out)
 have hlk:=uH.look m15 eG (z:=.nilFunc) (by kernel_rfl) k hwf
 have HS:=fA (rC.refl HH.out hbW)
 have h15:=fA (HH.out.below hbW)
 generalize hfv:(yT _ k).getD .nilFunc=fv at *
 clear HT HA HC HH HAL m15 hfv hbW GX
 have g0:=jA gY 0
 have g1:=jA gY 1
 have g2:=jA gY 2
 have g3:=jA gY 3
 have hmov:=gY
 rcases HK.out with ⟨rfl,hz,hrl⟩ | ⟨g,rfl,eg,HG⟩ | ⟨B,rfl,HG⟩
 ·clear HK
  have hnn:∀ W,(binOp .eql 30 .nilFunc .nilFunc).run prog W=.ok (.bool true) W:=fun _=>by kernel_rfl
  go_wp2
  go_ret
  rw [hz]
  exact ⟨⟨rfl,L,HS.out,fun m h=>h.mono (by omega)⟩,hrl⟩
 ·clear HK
  have hnn:∀ W,(binOp .eql 30 (mv C g) .nilFunc).run prog W=.ok (.bool false) W:=fun _=>by kernel_rfl
  have HGG:=fA HG
  clear HG
  go_wp2_with (go_at_fn g;refine (HGG.out _ (xC _)).mono ?_;rintro e w2 ⟨⟨rfl,L2,st,hq⟩,hrl⟩)
  go_ret
  exact ⟨⟨rfl,L2,HS.out.trans st,hq⟩,hrl⟩
 ·clear HK
  have hnn:∀ W,(binOp .eql 30 (.func (.func 62) #[] #[.pointer (yA ⟨B,0,none⟩),.pointer (yA ⟨B+1,0,none⟩),.pointer (yA ⟨B+2,0,none⟩),.pointer (yA ⟨B+3,0,none⟩)]) .nilFunc).run prog W=.ok (.bool false) W:=fun _=>by kernel_rfl
  have HGG:=fA HG
  clear HG
  go_wp2_with (go_at_call 62;refine (HGG.out _ (xC _)).mono ?_;rintro e w2 ⟨⟨rfl,L2,st,hq⟩,hrl⟩)
  go_ret
  exact ⟨⟨rfl,L2,HS.out.trans st,hq⟩,hrl⟩
theorem oG.mono {c:Cl} {i j:Nat} (h:oG c i) (hij:i<=j):oG c j:=by
 have ht:=h.t
 have hb:=h.bs
 have hd:=h.ds
 have hn:=h.net
 exact ⟨h.ru,h.ns,h.cs,⟨ht.1,by omega⟩,by omega,h.ls,by omega,by omega,h.od,h.sv⟩
theorem oG.knw {c:Cl} {i:Nat} (h:oG c i) (K p q r:Int):oG (c.knw K p q r).1 i:=by
 have ha:=zDn K p q r h.ns h.cs
 unfold Cl.knw Cl.knownZ
 split
 ·exact h
 ·exact ⟨h.ru,ha.1,ha.2,h.t,h.bs,h.ls,h.ds,h.net,h.od,h.sv⟩
theorem oG.hst {c:Cl} {i:Nat} (h:oG c i) (a:Int) {v:zHu} (hv:bH v.s):oG { c with h:=eH c.h a (yA v) } i:=⟨h.ru,h.ns,h.cs,h.t,h.bs,h.ls,h.ds,h.net,h.od,fun k u hu=>by
 have hu:eH c.h a (yA v) k=yA u:=hu
 by_cases e:k=a
 ·subst e
  rw [iF] at hu
  injection hu with hu
  subst hu
  exact hv
 ·rw [fG _ _ e] at hu
  exact h.sv k u hu⟩
theorem oG.lsd {c:Cl} {i:Nat} (h:oG c i) {l:List Le} (hl:l.length<=c.ls.length):oG { c with ls:=l } i:=⟨h.ru,h.ns,h.cs,h.t,h.bs,pA hl h.ls,h.ds,h.net,h.od,h.sv⟩
theorem bH.remove {v:Sv} (h:bH v) (t:Int):bH (v.remove t).1:=bH.rem1 h t
theorem bH.report {v:Sv} (h:bH v):v.report.length<=16/\∀ x ∈ v.report,Wf x.1:=by
 unfold Sv.report
 exact ⟨pA (wJ _ _) (pA (jL _) h.l),fun x hx=>h.ids x (oY _ x (vZ hx))⟩
theorem oG.copyT {c:Cl} {i:Nat} (h:oG c i) {o:Od} (ho:zGC o) (k:Int) {v:zHu} (hv:bH v.s) {x:List UInt8 × Int × Int} (hx:x.1.length<=64):oG (c.copyT o k v x) i:=by
 unfold Cl.copyT
 split
 ·unfold Cl.copyY
  have h1:=h.hst k (v:=⟨(v.s.take o.2.1 x.2.1 o.2.2.2.1 x.1).1,v.up⟩) (hv.take ho.1 hx)
  split
  ·exact h1
  ·unfold Cl.copyZ
   split
   ·exact (h1.lsd (zHW _ _ _)).knw _ _ _ _
   ·exact h1.knw _ _ _ _
 ·exact h
theorem oG.does {c : Cl} {i : Nat} (h : oG c i) {o : Od} (ho : zGC o) (k : Int) {v : zHu} (hv : bH v.s) : oG (c.does o k v) i := by
 unfold Cl.does
 split
 ·unfold Cl.copies
  split
  ·exact h
  ·rename_i f hf
   split
   ·exact h
   ·split
    ·exact h
    ·exact h.copyT ho k hv (zEZ (h.sv _ f hf) _)
 ·split
  ·exact h.hst k (v:=⟨(v.s.remove o.2.1).1,v.up⟩) (hv.remove _)
  ·exact h
theorem oG.orderD {c:Cl} {i:Nat} (h:oG c i) {o:Od} (ho:zGC o):oG (c.orderD o) i:=by
 unfold Cl.orderD
 split
 ·exact h
 ·rename_i v hv
  split
  ·exact h.does ho _ (h.sv _ v hv)
  ·exact h
theorem zRV:zGC zRk:=⟨by decide,by decide,by decide⟩
theorem oG.getOd {c:Cl} {i:Nat} (h:oG c i) (j:Nat):zGC (c.net.getD j zRk):=by
 rw [List.getD_eq_getElem?_getD]
 cases e:c.net[j]? with
 | none=>exact zRV
 | some o=>exact h.od o (List.mem_of_getElem? e)
theorem oG.cut {c:Cl} {i:Nat} (h:oG c i) (j:Nat):oG (c.cut j) i:=⟨h.ru,h.ns,h.cs,h.t,h.bs,h.ls,h.ds,by
 have:=h.net
 show (c.net.take j ++ c.net.drop (j+1)).length<=_
 rw [kB,List.length_take,List.length_drop]
 omega,fun o ho=>by
 have ho:o ∈ c.net.take j ++ c.net.drop (j+1):=ho
 rcases xD.1 ho with q | q
 ·exact h.od o (List.mem_of_mem_take q)
 ·exact h.od o (List.mem_of_mem_drop q),h.sv⟩
theorem oG.app {c:Cl} {i:Nat} (h:oG c i) {l:List Od} (hl:l.length<=10000) (ho:∀ o ∈ l,zGC o):oG { c with net:=c.net ++ l } (i+1):=by
 have h':=h.mono (uE i)
 have hn:=h.net
 exact ⟨h'.ru,h'.ns,h'.cs,h'.t,h'.bs,h'.ls,h'.ds,by show (c.net ++ l).length<=_;rw [kB];omega,fun o q=>(xD.1 q).elim (h.od o) (ho o),h'.sv⟩
theorem oG.order {c:Cl} {i:Nat} (h:oG c i) (k a:Int):oG (c.order k a).1 (i+1):=by
 unfold Cl.order
 split
 ·exact h.mono (uE i)
 ·split
  ·exact h.app (l:=[c.net.getD a.toNat zRk]) (by simp) (fun o ho=>by rw [xB] at ho;subst ho;exact h.getOd _)
  ·dsimp only
   split
   ·exact ((h.cut _).orderD (h.getOd _)).mono (uE i)
   ·exact (h.cut _).mono (uE i)
theorem oG.repA {c:Cl} {i:Nat} (h:oG c i) (a:Int) (rep:List Rp):oG (c.repA a rep) i:=by
 unfold Cl.repA
 generalize sS c.cs a rep=l
 induction l generalizing c with
 | nil=>exact h
 | cons x l ih =>
  refine ih ?_
  unfold Cl.repK
  split
  ·exact h
  ·exact h.knw _ _ _ _
theorem oG.report {c:Cl} {i:Nat} (h:oG c i) {a:Int} (ha:Wf a) {rep:List Rp} (hl:rep.length<=16) (hr:∀ x ∈ rep,Wf x.1):oG (c.report a rep) (i+1):=by
 unfold Cl.report Cl.repB
 refine (h.repA a rep).app (pA (zIM _ _ _ _) (by omega)) fun o ho => ?_
 unfold Cl.repN at ho
 obtain ⟨x,hx,rfl⟩:=List.mem_map.1 ho
 exact ⟨hr x (List.mem_filter.1 hx).1,ha,ha⟩
theorem oG.knws {c:Cl} {i:Nat} (h:oG c i) (l:List Cx):oG (c.knws l) i:=by
 unfold Cl.knws
 induction l generalizing c with
 | nil=>exact h
 | cons x l ih=>exact ih (h.knw _ _ _ _)
theorem oG.round {c:Cl} {i:Nat} (h:oG c i) (hl:(xO c.ns c.cs c.bs c.ls c.ds c.r c.t).2.2.1.length<=10000):oG c.round (i+1):=by
 have hI:=zFc (ns:=c.ns) c.bs (ds:=c.ds) c.t h.ru h.cs h.ls
 have hd:=h.ds
 unfold Cl.round Cl.roundP Cl.roundA
 generalize xO c.ns c.cs c.bs c.ls c.ds c.r c.t=p at *
 have h':=h.mono (uE i)
 have h1:oG { c with ls:=p.1,ds:=p.2.1 } (i+1):=⟨h'.ru,h'.ns,h'.cs,h'.t,h'.bs,hI.ls,by have:=hI.ds;show p.2.1.length<=_;omega,h'.net,h'.od,h'.sv⟩
 have h2:=h1.knws p.2.2.2
 obtain ⟨n,s,e⟩:=zGd { c with ls:=p.1,ds:=p.2.1 } p.2.2.2
 rw [e] at h2 ⊢
 have hn:=h.net
 exact ⟨h2.ru,h2.ns,h2.cs,h2.t,h2.bs,h2.ls,h2.ds,by show (c.net ++ p.2.2.1).length<=_;rw [kB];omega,fun o q=>(xD.1 q).elim (h.od o) (hI.os o),h2.sv⟩
theorem oG.write {c:Cl} {i:Nat} (h:oG c i) {a:Int} (b:Int) (ha:Wf a):oG (c.write a b).1 i:=by
 unfold Cl.write Cl.wrZ
 have hA:=zDn (if (rF c.cs a).2 then 4 else 3) a (U (sum (yS a b))) 0 h.ns h.cs
 generalize lT (if (rF c.cs a).2 then 4 else 3) a (U (sum (yS a b))) 0 c.ns c.cs=z at *
 split
 ·exact h
 ·have hW:=zCS.all h.sv z.2.2 (U (sum (yS a b))) ha (d:=yS a b) (by unfold yS;simp) (c.wrIds z.1)
  generalize c.wrTakes a z.2.2 (U (sum (yS a b))) (yS a b) (c.wrIds z.1)=p at *
  obtain ⟨hf,he⟩:=hW.eq
  have hsv:=hW.sv
  rw [he] at hsv
  unfold Cl.wrB
  split
  ·rw [he];exact ⟨h.ru,h.ns,h.cs,h.t,h.bs,h.ls,h.ds,h.net,h.od,hsv⟩
  ·unfold Cl.wrC
   rw [he]
   have h0:oG { { c with h:=hf } with ns:=z.1,cs:=z.2.1 } i:=⟨h.ru,hA.1,hA.2,h.t,h.bs,h.ls,h.ds,h.net,h.od,hsv⟩
   generalize ({ { c with h:=hf } with ns:=z.1,cs:=z.2.1 }:Cl)=c0 at *
   generalize p.2=l
   clear hsv he hW
   induction l generalizing c0 with
   | nil=>exact h0
   | cons x l ih=>exact ih _ (h0.knw _ _ _ _)
theorem oG.atF {c:Cl} {i j:Nat} (h:oG c i) (hij:i<=j) (a:Int) (n u:Bool) {F:zHu -> Cl × Int} (hF:∀ v,bH v.s -> oG (F v).1 j):oG (c.atF a n u F).1 j:=by
 unfold Cl.atF
 split
 ·exact h.mono hij
 ·rename_i v hv
  split
  ·exact h.mono hij
  ·exact hF v (h.sv a v hv)
theorem zDx {α:Type} (P:α -> Prop) {q:Prop} [Decidable q] {x y:α} (h1:q -> P x) (h2:¬ q -> P y):P (if q then x else y):=by
 split
 ·exact h1 (by assumption)
 ·exact h2 (by assumption)
theorem oG.doIt {c:Cl} {i:Nat} (h:oG c i) {k a b d:Int} (ha:Wf a) (hr:zEi k c):oG (c.doIt k a b d).1 (i+1):=by
 have h':=h.mono (uE i)
 have ht:=h.t
 unfold Cl.doIt
 refine zDx (fun z:Cl × Int=>oG z.1 (i+1)) (fun e => ?_) (fun _ => ?_)
 ·unfold Cl.tick
  split
  ·exact h'
  ·exact ⟨h'.ru,h'.ns,h'.cs,⟨by show 0<=c.t+a;omega,by show c.t+a<=_;omega⟩,h'.bs,h'.ls,h'.ds,h'.net,h'.od,h'.sv⟩
 refine zDx (fun z:Cl × Int=>oG z.1 (i+1)) (fun e => ?_) (fun _ => ?_)
 ·unfold Cl.addN Cl.addZ
  split
  ·exact (h'.knw _ _ _ _).hst a (v:=⟨newSv d,true⟩) (bH.newSv d)
  ·exact h'.knw _ _ _ _
 refine zDx (fun z:Cl × Int=>oG z.1 (i+1)) (fun e => ?_) (fun _ => ?_)
 ·exact h'.knw _ _ _ _
 refine zDx (fun z:Cl × Int=>oG z.1 (i+1)) (fun e => ?_) (fun _ => ?_)
 ·refine h.atF (uE i) a _ _ fun v hv => ?_
  have hb:=h.bs
  exact ⟨h'.ru,h'.ns,h'.cs,h'.t,by show (pN c.bs a c.t).length<=_;have:=zEF c.bs a c.t;omega,h'.ls,h'.ds,h'.net,h'.od,h'.sv⟩
 refine zDx (fun z:Cl × Int=>oG z.1 (i+1)) (fun e => ?_) (fun _ => ?_)
 ·exact h.atF (uE i) a _ _ fun v hv=>h.report ha hv.report.1 hv.report.2
 refine zDx (fun z:Cl × Int=>oG z.1 (i+1)) (fun e => ?_) (fun _ => ?_)
 ·exact h.round (hr e)
 refine zDx (fun z:Cl × Int=>oG z.1 (i+1)) (fun e => ?_) (fun _ => ?_)
 ·exact h.order k a
 refine zDx (fun z:Cl × Int=>oG z.1 (i+1)) (fun e => ?_) (fun _ => ?_)
 ·exact h.atF (uE i) a _ _ fun v hv=>h'.hst a (v:=⟨v.s,false⟩) hv
 refine zDx (fun z:Cl × Int=>oG z.1 (i+1)) (fun e => ?_) (fun _ => ?_)
 ·exact h.atF (uE i) a _ _ fun v hv=>h'.hst a (v:=⟨v.s.restart,true⟩) (hv.fold _)
 refine zDx (fun z:Cl × Int=>oG z.1 (i+1)) (fun e => ?_) (fun _ => ?_)
 ·exact h'.write b ha
 refine zDx (fun z:Cl × Int=>oG z.1 (i+1)) (fun e => ?_) (fun _ => ?_)
 ·exact h.atF (uE i) a _ _ fun v hv=>h'.hst a (v:=⟨v.s.scrub,v.up⟩) (hv.rems _)
 refine zDx (fun z:Cl × Int=>oG z.1 (i+1)) (fun e => ?_) (fun _ => ?_)
 ·exact h.atF (uE i) a _ _ fun v hv=>h'.hst a (v:=⟨(v.s.spoil b d).1,v.up⟩) (hv.spoil b d)
 refine zDx (fun z:Cl × Int=>oG z.1 (i+1)) (fun e => ?_) (fun _ => ?_)
 ·exact h.atF (uE i) a _ _ fun v hv=>h'.hst a (v:=⟨v.s.wipe,v.up⟩) hv.wipe
 ·exact h'
theorem oG.tick0 (c:Cl) (b d:Int):c.doIt 0 0 b d=(c,0):=by
 unfold Cl.doIt Cl.tick
 rw [if_pos rfl,if_neg (by omega),Int.add_zero]
structure zBQ (B:Nat) (w:uA) (Ca Cb:Nat) (La Lb:CL) (c d:Cl):Prop where
 a:iG (fun x=>¬ Lb.own Cb x) w Ca La c
 b:iG (fun x=>¬ La.own Ca x) w Cb Lb d
 dj:∀ x,La.own Ca x -> ¬ Lb.own Cb x
 fa:∀ x,La.own Ca x -> B<=x
 fb:∀ x,Lb.own Cb x -> B<=x
 hB:B<=w.heap.size
theorem zBQ.swap {B:Nat} {w:uA} {Ca Cb:Nat} {La Lb:CL} {c d:Cl} (h:zBQ B w Ca Cb La Lb c d):zBQ B w Cb Ca Lb La d c:=⟨h.b,h.a,fun x h1 h2=>h.dj x h2 h1,h.fb,h.fa,h.hB⟩
theorem zBQ.below {B:Nat} {w w':uA} {Ca Cb:Nat} {La Lb:CL} {c d:Cl} (h:zBQ B w Ca Cb La Lb c d) (hb:Below w.heap.size w w'):zBQ B w' Ca Cb La Lb c d:=⟨h.a.below hb,h.b.below hb,h.dj,h.fa,h.fb,pA h.hB hb.size⟩
theorem cJ.to_below {P:Nat -> Prop} {B:Nat} {w w':uA} (h:cJ P w w') (hP:∀ x,P x -> B<=x) (hB:B<=w.heap.size):Below B w w':=by
 obtain ⟨T,hT,hC⟩:=h.list
 exact hC.to_below (fun x hx=>hP x (hT x hx).1) hB
theorem zBQ.step {B:Nat} {w w':uA} {Ca Cb:Nat} {La La' Lb:CL} {c c' d:Cl} (h:zBQ B w Ca Cb La Lb c d) (st:rC (fun x=>¬ Lb.own Cb x) Ca La La' c' w w'):zBQ B w' Ca Cb La' Lb c' d/\Below B w w':=by
 have hbl:=st.chg.to_below h.fa h.hB
 have hs:=hbl.size
 have h1:iG (fun x=>¬ La.own Ca x/\¬ La'.own Ca x) w Cb Lb d:=h.b.monoR fun x hx hn=>⟨hn,fun q=>(st.fr x q).elim hn (fun p=>by omega)⟩
 have h2:=h1.out st.chg fun x hx=>⟨fun q=>q.1 hx,h.dj x hx⟩
 exact ⟨⟨st.at_,h2.monoR fun x _ q=>q.2,fun x hx q=>(st.fr x hx).elim (fun p=>h.dj x p q) (fun p=>by have:=h.b.own_lt q;omega),fun x hx=>(st.fr x hx).elim (h.fa x) (fun p=>pA h.hB p),h.fb,pA h.hB hs⟩,hbl⟩
def RetDo (B:Nat) (Ca Cb:Nat) (La Lb:CL) (c d:Cl) (w:uA) (r:Cl × Int) (k:Int) (e:Ending) (w':uA):Prop:=e=.returned (.int .i64 r.2)/\∃ La',zBQ B w' Ca Cb La' Lb r.1 d/\Below B w w'/\(∀ m,La.ok m -> La'.ok (m+20))/\zEi k c
theorem zKD {B:Nat} {w:uA} {Ca Cb:Nat} {La Lb:CL} {c d:Cl} (h:zBQ B w Ca Cb La Lb c d) (i:Nat) (hi:i<=99) (ho:oG c i) {k a b z:Int} (hwf:zQx (k,a,b,z)) (m:Nat) (hm:La.ok m) (hm2:m+40<1000000) :
  iA prog 6 #[.pointer (yA ⟨Ca,0,none⟩),.agg #[k,a,b,z]] w (RetDo B Ca Cb La Lb c d w (c.doIt k a b z) k):=by
 refine (zHA _ Ca La c k a b z w h.a (fun x hx q=>by have:=h.b.own_lt q;omega) i hi ho hwf.1 hwf.2.1 hwf.2.2.1 m hm hm2).mono ?_
 rintro e w' ⟨⟨rfl,L',st,hq⟩,hr⟩
 obtain ⟨h1,h2⟩:=h.step st
 exact ⟨rfl,L',h1,h2,hq,hr⟩
theorem zEX {B:Nat} {w:uA} {Ca Cb:Nat} {La Lb:CL} {c d:Cl} (h:zBQ B w Ca Cb La Lb c d) {i:Nat} (ho:oG c i) {t:Int} (ht:Wf t):iA prog 7 #[(Ca,0),t] w (zNw (c.readC t) w):=zJB _ Ca La c t w h.a ho.sv ho.cs ht
theorem zIt {r:Ru} (h:vT r=true):oG (zGl r) 0:=⟨h,rfl,rfl,⟨iS _,iS _⟩,mA _,Nat.zero_le _,mA _,mA _,fun o ho=>(by cases ho),fun k v hv=>(by cases hv)⟩
theorem zOY {B:Nat} {w1 w2:uA} {Ca Cb Ma Mb:Nat} {c:Cl} (ha:∀ R,iG R w2 Ca (pU Ma) c) (hb:∀ R,iG R w2 Cb (pU Mb) c) (hs:w1.heap.size<=w2.heap.size) (h1:B<=Ca) (h2:B<=Ma) (h3:B<=Cb) (h4:B<=Mb) (hlt:∀ x,(pU Ma).own Ca x -> x<w1.heap.size) (h5:w1.heap.size<=Cb) (h6:w1.heap.size<=Mb) (hB:B<=w2.heap.size):zBQ B w2 Ca Cb (pU Ma) (pU Mb) c c:=by
 have own:∀ {C M x:Nat},(pU M).own C x -> x=C\/x=M:=fun {C M x} h=>by
  rcases h with h | h | h | ⟨k,H,s,S,h,_⟩
  ·exact .inl h
  ·exact .inr h
  ·cases h
  ·cases h
 refine ⟨ha _,hb _,fun x q1 q2 => ?_,fun x q => ?_,fun x q => ?_,hB⟩
 ·have:=hlt x q1
  rcases own q2 with rfl | rfl <;> omega
 ·rcases own q with rfl | rfl <;> assumption
 ·rcases own q with rfl | rfl <;> assumption
theorem zES (M:Nat):(pU M).ok 0:=⟨mA _,fun k a h=>(by cases h)⟩
theorem topSame_walk (HAW : ∀ W : uA, iA prog 4 #[] W fun e w' => e = .returned (.bool true) /\ Below W.heap.size W w') (r1 r2 r3 r4 r5 r6 t : Int) (ia : Option Addr) (ic : Nat) (its : List ItW) (w : uA) (hits : ItemsW w ia ic its) (ht : Wf t) :
  iA prog 3 #[.agg #[r1,r2,r3,r4,r5,r6],.slice ia its.length ic,.int .i64 t] w fun e w'=>e=.returned (.bool true)/\Below w.heap.size w w':=by
 replace HAW:=fA HAW
 have gR:=rB w (.cells #[r1,r2,r3,r4,r5,r6] 23)
 have hal:=wA w (.cells #[r1,r2,r3,r4,r5,r6] 23)
 by_cases hru:vT (r1,r2,r3,r4,r5,r6)=true
 rotate_left 1
 ·have HN:Hid (∀ W,iA prog 5 #[.agg #[r1,r2,r3,r4,r5,r6]] W fun e w'=>e=.returned (.tuple #[.pointer none,.int .i64 1])/\Below W.heap.size W w'):=fA fun W=>(zDq r1 r2 r3 r4 r5 r6 W).mono fun e w' q=>by
   rcases q with ⟨_,h1,h2⟩ | ⟨h1,_⟩
   ·exact ⟨h1,h2⟩
   ·exact absurd h1 hru
  clear hits hru
  by_cases hq:100<(its.length:Int)
  all_goals (
   go_enter func3,ntmps3
   go_wp2_with (first
    | (go_at_call 4;refine (HAW.out _).mono ?_;rintro e w1 ⟨rfl,hb1⟩;have hw1:=hal.trans (hb1.mono hal.size);have G1:=kA hb1 gR;have x0:=jA G1 0;have x1:=jA G1 1;have x2:=jA G1 2;have x3:=jA G1 3;have x4:=jA G1 4;have x5:=jA G1 5)
    | (go_at_call 5;have qq:=hw2;refine (HN.out _).mono ?_;rintro e w3 ⟨rfl,hb3⟩;have hw3:=hw2.trans (hb3.mono hw2.size);have G3:=kA hb3 G2;have z0:=jA G3 0;have z1:=jA G3 1;have z2:=jA G3 2;have z3:=jA G3 3;have z4:=jA G3 4;have z5:=jA G3 5)
    | (go_at_call 5;refine (HN.out _).mono ?_;rintro e w2 ⟨rfl,hb2⟩;have hw2:=hw1.trans (hb2.mono hw1.size);have G2:=kA hb2 G1;have y0:=jA G2 0;have y1:=jA G2 1;have y2:=jA G2 2;have y3:=jA G2 3;have y4:=jA G2 4;have y5:=jA G2 5))
   go_ret
   exact ⟨rfl,hw3⟩)
 have HN:Hid (∀ W,iA prog 5 #[.agg #[r1,r2,r3,r4,r5,r6]] W fun e w'=>∃ C M,e=.returned (.tuple #[.pointer (yA ⟨C,0,none⟩),.int .i64 0])/\(∀ R,iG R w' C (pU M) (zGl (r1,r2,r3,r4,r5,r6)))/\W.heap.size<=C/\W.heap.size<=M/\Below W.heap.size W w'):=fA fun W=>(zDq r1 r2 r3 r4 r5 r6 W).mono fun e w' q=>by
  rcases q with ⟨h1,_⟩ | ⟨_,h2⟩
  ·rw [hru] at h1;cases h1
  ·exact h2
 have HOK:=fA (zIt hru)
 generalize zGl (r1,r2,r3,r4,r5,r6)=c0 at *
 clear hru
 by_cases hq:100<(its.length:Int)
 ·clear hits
  go_enter func3,ntmps3
  go_wp2_with (first
   | (go_at_call 4;refine (HAW.out _).mono ?_;rintro e w1 ⟨rfl,hb1⟩;have hw1:=hal.trans (hb1.mono hal.size);have G1:=kA hb1 gR;have x0:=jA G1 0;have x1:=jA G1 1;have x2:=jA G1 2;have x3:=jA G1 3;have x4:=jA G1 4;have x5:=jA G1 5)
   | (go_at_call 5;have qq:=hw2;refine (HN.out _).mono ?_;rintro e w3 ⟨C2,M2,rfl,ha2,hC2,hM2,hb3⟩;have hw3:=hw2.trans (hb3.mono hw2.size);have G3:=kA hb3 G2;have z0:=jA G3 0;have z1:=jA G3 1;have z2:=jA G3 2;have z3:=jA G3 3;have z4:=jA G3 4;have z5:=jA G3 5)
   | (go_at_call 5;refine (HN.out _).mono ?_;rintro e w2 ⟨C1,M1,rfl,ha1,hC1,hM1,hb2⟩;have hw2:=hw1.trans (hb2.mono hw1.size);have G2:=kA hb2 G1;have y0:=jA G2 0;have y1:=jA G2 1;have y2:=jA G2 2;have y3:=jA G2 3;have y4:=jA G2 4;have y5:=jA G2 5))
  go_ret
  exact ⟨rfl,hw3⟩
 have HI:=fA hits
 clear hits
 go_enter func3,ntmps3
 go_wp2_with (first
  | (go_at_call 4;refine (HAW.out _).mono ?_;rintro e w1 ⟨rfl,hb1⟩;have hw1:=hal.trans (hb1.mono hal.size);have G1:=kA hb1 gR;have x0:=jA G1 0;have x1:=jA G1 1;have x2:=jA G1 2;have x3:=jA G1 3;have x4:=jA G1 4;have x5:=jA G1 5)
  | (go_at_call 5;have qq:=hw2;refine (HN.out _).mono ?_;rintro e w3 ⟨C2,M2,rfl,ha2,hC2,hM2,hb3⟩;have hw3:=hw2.trans (hb3.mono hw2.size);have G3:=kA hb3 G2;have z0:=jA G3 0;have z1:=jA G3 1;have z2:=jA G3 2;have z3:=jA G3 3;have z4:=jA G3 4;have z5:=jA G3 5)
  | (go_at_call 5;refine (HN.out _).mono ?_;rintro e w2 ⟨C1,M1,rfl,ha1,hC1,hM1,hb2⟩;have hw2:=hw1.trans (hb2.mono hw1.size);have G2:=kA hb2 G1;have y0:=jA G2 0;have y1:=jA G2 1;have y2:=jA G2 2;have y3:=jA G2 3;have y4:=jA G2 4;have y5:=jA G2 5))
 have hP:=zOY (fun R=>(ha1 R).below hb3) ha2 hb3.size (by have:=hw1.size;omega) (by have:=hw1.size;omega) (pA hw2.size hC2) (pA hw2.size hM2) (fun x hx=>(ha1 (fun _=>True)).own_lt hx) hC2 hM2 hw3.size
 go_loopw [12] (fun j wr=>∃ (k:Nat) (La Lb:CL) (c:Cl),k<=its.length/\j=.int .i64 (k:Int)/\Hid (oG c k)/\zBQ w.heap.size wr C1 C2 La Lb c c/\Hid (La.ok (20 * k)/\Lb.ok (40 * k))/\Below w.heap.size w wr) (fun j _=>its.length - (intOf j).toNat)
 case atStart=>exact ⟨0,pU M1,pU M2,c0,by omega,rfl,HOK,hP,fA ⟨zES M1,zES M2⟩,hw3⟩
 case round =>
  clear hP hw3 hw2 hw1 hb3 hb2 hb1 ha1 ha2 hC1 hC2 hM1 hM2 HOK G1 G2 G3 x0 x1 x2 x3 x4 x5 y0 y1 y2 y3 y4 y5 z0 z1 z2 z3 z4 z5 gR hal HN HAW
  obtain ⟨k,La,Lb,c,hk,rfl,HO,hp,HL,hwr⟩:=hrel
  have hk0:(0:Int)<=(k:Int):=by omega
  by_cases hlt:k<its.length
  ·have hk1:(k:Int)<(its.length:Int):=by omega
   have hwf:=HI.out.wf _ (List.getElem_mem hlt)
   obtain ⟨nb,noff,hia,nlt,i0,i1,i2,i3⟩:=zIh HI.out hlt
   have hit:∀ V,Below w.heap.size w V -> V.cell? ⟨nb,noff+k * 4,none⟩=_/\V.cell? ⟨nb,noff+k * 4+1,none⟩=_/\V.cell? ⟨nb,noff+k * 4+2,none⟩=_/\V.cell? ⟨nb,noff+k * 4+3,none⟩=_:=fun V hb=>⟨((bcell hb).1 _ _ nlt).trans i0,((bcell hb).1 _ _ nlt).trans i1,((bcell hb).1 _ _ nlt).trans i2,((bcell hb).1 _ _ nlt).trans i3⟩
   subst hia
   obtain ⟨n0,n1,n2,n3⟩:=hit wr hwr
   generalize (its[k]'hlt)=it at *
   obtain ⟨t0,t1,t2,t3⟩:=it
   simp only at n0 n1 n2 n3 hit
   clear i0 i1 i2 i3
   have HIT:=fA hit
   clear hit
   have hk99:k<=99:=by omega
   have hOK:=HO.out
   have hLa:=HL.out.1
   have hLb:=HL.out.2
   have HO5:=fA (fun hr:zEi t0 c=>hOK.doIt (k:=t0) (d:=t3) (b:=t2) hwf.2.1 hr)
   have HZ:=fA (oG.tick0 c 0 0)
   have HD1:=fA (zKD hp k hk99 hOK hwf (20 * k) hLa (by omega))
   have HD3:=fA (fun V La (h:zBQ w.heap.size V C2 C1 Lb La c (c.doIt t0 t1 t2 t3).1)=>by
    have:=zKD h k hk99 hOK (k:=0) (a:=0) (b:=0) (z:=0) ⟨by decide,by decide,by decide,by decide⟩ (40 * k) hLb (by omega)
    rw [HZ.out] at this
    exact this)
   have HD4:=fA (fun V La Lb (h:zBQ w.heap.size V C2 C1 Lb La c (c.doIt t0 t1 t2 t3).1) (hl:Lb.ok (40 * k+20))=>zKD h k hk99 hOK hwf (40 * k+20) hl (by omega))
   generalize c.doIt t0 t1 t2 t3=rr at *
   clear hOK hLa HZ
   go_wp2_with (first
    | (go_at_call 7;have qq:=hw8;refine (zEX p8 HO7.out ht).mono ?_;rintro e w9 ⟨A9,n9,rfl,cb9,z9,hb9⟩;have p9:=p8.below hb9;have hw9:=hw8.trans (hb9.mono hw8.size);have v1:=dX n8 w9 (cb8.below hb9) z8;have v2:=dX n9 w9 cb9 z9)
    | (go_at_call 7;have qq:=hw7;refine (zEX p7.swap HO7.out ht).mono ?_;rintro e w8 ⟨A8,n8,rfl,cb8,z8,hb8⟩;have p8:=p7.below hb8;have hw8:=hw7.trans (hb8.mono hw7.size))
    | (go_at_call 6;have qq:=hw6;refine (HD4.out _ _ _ p6 (q6 _ hLb)).mono ?_;rintro e w7 ⟨rfl,L7,p7,b7,q7,_⟩;have hw7:=hw6.trans b7)
    | (go_at_call 6;have qq:=hw5;refine (HD3.out _ _ p5.swap).mono ?_;rintro e w6 ⟨rfl,L6,p6,b6,q6,_⟩;have hw6:=hw5.trans b6;obtain ⟨m0,m1,m2,m3⟩:=HIT.out w6 hw6)
    | (go_at_call 7;have qq:=hw4;refine (zEX p4.swap HO.out ht).mono ?_;rintro e w5 ⟨A5,n5,rfl,cb5,z5,hb5⟩;have p5:=p4.below hb5;have hw5:=hw4.trans (hb5.mono hw4.size))
    | (go_at_call 6;refine HD1.out.mono ?_;rintro e w4 ⟨rfl,L4,p4,b4,q4,hr4⟩;have hw4:=hwr.trans b4;have HO7:=fA (HO5.out hr4))
    | (go_at_call 8;refine (zFK _ C1 _ _ _ p9.swap.a).mono ?_;rintro e wx ⟨rfl,hwx⟩;subst hwx)
    | (go_at_call 8;refine (zFK _ C2 _ _ _ p9.a).mono ?_;rintro e wx ⟨rfl,hwx⟩;subst hwx)
    | (go_at_call 9;refine (zBY _ C1 _ _ _ p9.swap.a).mono ?_;rintro e wx ⟨rfl,hwx⟩;subst hwx)
    | (go_at_call 9;refine (zBY _ C2 _ _ _ p9.a).mono ?_;rintro e wx ⟨rfl,hwx⟩;subst hwx))
   go_roundw
   case rel=>exact ⟨k+1,L4,L7,rr.1,by omega,by go_num,HO7,p9.swap,fA ⟨(q4 _ HL.out.1).mono (by omega),(q7 _ (q6 _ HL.out.2)).mono (by omega)⟩,hw9⟩
   case measure=>simp [intOf];omega
  have hk1:¬ (k:Int)<(its.length:Int):=by omega
  go_wp2
  go_ret
  exact ⟨rfl,hwr⟩
theorem zID (w:uA):iA prog 10 #[] w fun e w'=>e=.returned (.agg #[.int .i64 10,.int .i64 2,.int .i64 4,.int .i64 2,.int .i64 5,.int .i64 1])/\Below w.heap.size w w':=by
 go_enter func10,ntmps10
 go_wp2
 go_returns
 exact ⟨rfl,wA w _⟩
theorem zMC {C M x:Nat} (h:(pU M).own C x):x=C\/x=M:=by
 rcases h with h | h | h | ⟨k,H,s,S,h,_⟩
 ·exact .inl h
 ·exact .inr h
 ·cases h
 ·cases h
def zPZ:Cl:=zGl (10,2,4,2,5,1)
theorem zQa:(zPZ.doIt 1 1 1 4).2=0:=by kernel_rfl
theorem zRt:(zPZ.doIt 1 1 1 4).1.upP 1=true:=by kernel_rfl
theorem zNB (P0 P1:Nat -> (Nat -> Prop) -> uA -> Prop)
  (hN:∀ W,iA prog 11 #[.int .i64 1] W fun e w'=>∃ G S,e=.returned (.tuple #[(G,0),.int .i64 0])/\P0 G S w'/\(∀ x,S x -> W.heap.size<=x/\x<w'.heap.size)/\Below W.heap.size W w')
  (hK:∀ G S T w w',P0 G S w -> cJ T w w' -> (∀ x,T x -> ¬ S x) -> P0 G S w')
  (hD:∀ W G S,P0 G S W -> iA prog 12 #[.pointer (yA ⟨G,0,none⟩),.agg #[.int .i64 0,.int .i64 1,.int .i64 0,.int .i64 0]] W fun e w'=>e=.returned (.int .i64 0)/\cJ S W w'/\P1 G S w')
  (hS:∀ W G S,P1 G S W -> iA prog 14 #[(G,0),.int .i64 1] W fun e w'=>∃ A c,e=.returned (.slice A 1 c)/\Below W.heap.size W w')
  (w:uA):iA prog 4 #[] w fun e w'=>e=.returned (.bool true)/\Below w.heap.size w w':=by
 have HNC:Hid (∀ W,iA prog 5 #[.agg #[.int .i64 10,.int .i64 2,.int .i64 4,.int .i64 2,.int .i64 5,.int .i64 1]] W fun e w'=>∃ C M,e=.returned (.tuple #[.pointer (yA ⟨C,0,none⟩),.int .i64 0])/\(∀ R,iG R w' C (pU M) zPZ)/\W.heap.size<=C/\W.heap.size<=M/\Below W.heap.size W w'):=fA fun W=>(zDq 10 2 4 2 5 1 W).mono fun e w' q=>by
  rcases q with ⟨h1,_⟩ | ⟨_,h2⟩
  ·exact absurd h1 (by decide)
  ·exact h2
 have HDC:=fA (fun R C L W (h:iG R W C L zPZ) (hR:∀ x,W.heap.size<=x -> R x) (hL:L.ok 0)=>by
  have:=zHA R C L zPZ 1 1 1 4 W h hR 0 (by decide) (zIt (by decide)) (by decide) (by decide) (by decide) 0 hL (by decide)
  rw [zQa] at this
  exact this)
 have HUP:=fA (fun R C L W (h:iG R W C L (zPZ.doIt 1 1 1 4).1)=>by
  have:=zEp R C L (zPZ.doIt 1 1 1 4).1 1 W h (by decide)
  rw [zRt] at this
  exact this)
 generalize (zPZ.doIt 1 1 1 4).1=c1 at *
 generalize zPZ=c0 at *
 have HN:=fA hN
 have HK:=fA hK
 have HD:=fA hD
 have HS:=fA hS
 clear hN hK hD hS
 go_enter func4,ntmps4
 go_wp2_with (first
  | (go_at_call 10;refine (zID _).mono ?_;rintro e w1 ⟨rfl,hb1⟩)
  | (go_at_call 5;refine (HNC.out _).mono ?_;rintro e w2 ⟨C,M,rfl,ha2,hC2,hM2,hb2⟩;have hw2:=hb1.trans (hb2.mono hb1.size);have hs1:=hb1.size)
  | (go_at_call 11;refine (HN.out _).mono ?_;rintro e w3 ⟨G,S,rfl,p3,s3,hb3⟩;have hw3:=hw2.trans (hb3.mono hw2.size);have a3:=(ha2 (fun x=>¬ S x)).below hb3;have own3:=fun x (hx:(pU M).own C x)=>(ha2 (fun _=>True)).own_lt hx;have own4:=fun x (hx:(pU M).own C x)=>zMC hx)
  | (go_at_call 6;refine (HDC.out _ _ _ _ a3 (fun x hx q=>by have:=(s3 x q).2;omega) (zES M)).mono ?_;rintro e w4 ⟨⟨rfl,L4,st4,_⟩,_⟩;have p4:=HK.out _ _ _ _ _ p3 st4.chg (fun x hx q=>by have:=own3 x hx;have:=(s3 x q).1;omega);have hw4:=hw3.trans (st4.chg.to_below (fun x hx=>by rcases own4 x hx with q | q <;> omega) hw3.size))
  | (go_at_call 12;refine (HD.out _ _ _ p4).mono ?_;rintro e w5 ⟨rfl,c5,p5⟩;have a5:=st4.at_.out c5 (fun x hx=>⟨fun q=>q hx,fun q=>by have:=(s3 x hx).1;have:=(s3 x hx).2;rcases st4.fr x q with q | q;(have:=own3 x q;omega);omega⟩);have hw5:=hw4.trans (c5.to_below (fun x hx=>by have:=(s3 x hx).1;have:=hw2.size;omega) hw4.size))
  | (go_at_call 13;refine (HUP.out _ _ _ _ a5).mono ?_;rintro e wx ⟨rfl,hwx⟩;subst hwx)
  | (go_at_call 14;refine (HS.out _ _ _ p5).mono ?_;rintro e w6 ⟨A6,c6,rfl,hb6⟩;have hw6:=hw5.trans (hb6.mono hw5.size)))
 go_ret
 exact ⟨rfl,hw6⟩
theorem GM.chg {T:List Nat} {w w':uA} {G A V M Q O:Nat} (h:GM w G A V M Q O) (hc:fD T w w') (hT:∀ x ∈ T,x ∉ [G,A,V,M,Q,O]):GM w' G A V M Q O :=
 ⟨hc.keep h.g fun q=>hT _ q (by simp),hc.keep h.a fun q=>hT _ q (by simp),hc.keep h.v fun q=>hT _ q (by simp),hc.keep h.m fun q=>hT _ q (by simp),h.q.chg hc fun q=>hT _ q (by simp),hc.keep h.o fun q=>hT _ q (by simp)⟩
theorem sameAwake_any (w:uA):iA prog 4 #[] w fun e w'=>e=.returned (.bool true)/\Below w.heap.size w w':=zNB
 (fun G S V=>∃ A U M Q O,GM V G A U M Q O/\S=fun x=>x ∈ [G,A,U,M,Q,O])
 (fun G S V=>∃ A U M Q O L c,V.heap[G]?=yA (gO A)/\V.heap[A]?=yA (.cells #[.pointer (yA ⟨M,0,none⟩),.pointer (yA ⟨U,0,none⟩)] 83)/\V.heap[M]?=yA (mO 1 1 L 1 c 2 1 Q O)/\Lo V L 1)
 (fun W=>(gnew1 W).mono fun e w' q=>by
  obtain ⟨G,A,V,M,Q,O,rfl,h,h1,h2,h3,h4,h5,h6,hb⟩:=q
  have:=eB h.g
  have:=eB h.a
  have:=eB h.v
  have:=eB h.m
  have:=h.q.lt
  have:=eB h.o
  exact ⟨G,_,rfl,⟨A,V,M,Q,O,h,rfl⟩,fun x hx=>by simp at hx;omega,hb⟩)
 (fun G S T w w' q hc hT=>by
  obtain ⟨A,V,M,Q,O,h,rfl⟩:=q
  obtain ⟨U,hU,hC⟩:=hc.list
  exact ⟨A,V,M,Q,O,h.chg hC fun x hx q=>hT x (hU x hx).1 q,rfl⟩)
 (fun W G S q=>by
  obtain ⟨A,V,M,Q,O,h,rfl⟩:=q
  refine (do1 G A V M Q O W h).mono ?_
  rintro e w' ⟨rfl,hC,L,c,h1,h2,h3,h4⟩
  exact ⟨rfl,cJ.of hC (fun x hx=>.inl hx),A,V,M,Q,O,L,c,h1,h2,h3,h4⟩)
 (fun W G S q=>by
  obtain ⟨A,V,M,Q,O,L,c,h1,h2,h3,h4⟩:=q
  exact zLZ G A V M Q O L c W h1 h2 h3 h4) w
end Go.Proofs.YtogbpifcmhafkaaGreat
