/-
 Part PZM of the proof.
-/
import Derived.Test.YtogbpifcmhafkaaGreatPZI
import Derived.Test.YtogbpifcmhafkaaGreatPZD
import Derived.Test.YtogbpifcmhafkaaGreatPZ
import Derived.Test.YtogbpifcmhafkaaGreatPZG
open And renaming intro->gG
open Go renaming Calls->iA,World->uA
open Go.Instr renaming lookup->eE
open Go.Lib renaming hid->fA
open Go.RowKit.Below renaming refl->cC
open List renaming mem_singleton->xB
open Nat renaming le_add_right->mF,le_trans->pA,lt_of_lt_of_le->tA
open Option renaming some->yA
namespace Go.Proofs.YtogbpifcmhafkaaGreat
open Go.RowKit Tryz
open Go.Lib(hid)
set_option linter.unusedVariables false
set_option linter.unusedSimpArgs false
set_option maxRecDepth 100000
set_option maxHeartbeats 16000000
theorem CL.ok.set {L:CL} {k:Int} {H s:Nat} {S S':SL} {q m:Nat} (h:L.ok m) (hk:L.hb k=yA (H,s,S)) (hq:S'.n<=S.n+q):CL.ok { L with hb:=eH L.hb k (yA (H,s,S')) } (m+q):=⟨pA h.1 (mF _ _),fun k' p hp=>by
 dsimp only at hp
 by_cases e:k'=k
 ·subst e
  rw [iF] at hp
  injection hp with hp
  subst hp
  exact pA hq (Nat.add_le_add_right (h.2 k' _ hk) _)
 ·rw [fG _ _ e] at hp
  exact pA (h.2 k' p hp) (mF _ _)⟩
theorem zGw {α:Type} (f:Int -> α) (k:Int) (u v:α):eH (eH f k u) k v=eH f k v:=by
 funext k'
 by_cases e:k'=k
 ·subst e;rw [iF,iF]
 ·rw [fG _ _ e,fG _ _ e,fG _ _ e]
section
variable (R:Nat -> Prop) (C:Nat) (L:CL) (c:Cl) (i a b d k:Int) (H s:Nat) (S:SL) (v:zHu) (w:uA) (h:iG R w C L c) (hk:L.hb k=yA (H,s,S)) (hv:c.h k=yA v)
include h hk hv
theorem zJA:iA prog 25 #[.pointer (yA ⟨C,0,none⟩),.agg #[i,a,b,d],.pointer (yA ⟨H,0,none⟩)] w (lL R C L 0 w (.int .i64 0) { c with h:=eH c.h k (yA ⟨v.s,false⟩) }):=by
 have hal:=wA w (.cells #[i,a,b,d] 32)
 have gI:=rB w (.cells #[i,a,b,d] 32)
 have HH:=fA (h.below hal)
 have HB:=fA (rC.refl h hal)
 obtain ⟨g1,g2⟩:=HH.out.ho k H s S v hk hv
 have e0:=jA g1 0
 have f1:=qB g1 1
 have e1:=jA g1 1
 clear h g1 g2 gI
 go_enter func25,ntmps25
 go_wp2
 go_ret
 exact ⟨rfl,L,HB.out.trans (HH.out.setUp hk hv false),fun _ h=>h⟩
theorem zJE:iA prog 29 #[.pointer (yA ⟨C,0,none⟩),.agg #[i,a,b,d],.pointer (yA ⟨H,0,none⟩)] w (lL R C L 0 w (.int .i64 0) { c with h:=eH c.h k (yA ⟨v.s.wipe,v.up⟩) }):=by
 have hal:=wA w (.cells #[i,a,b,d] 32)
 have gI:=rB w (.cells #[i,a,b,d] 32)
 have HH:=fA (h.below hal)
 have HB:=fA (rC.refl h hal)
 obtain ⟨g1,g2⟩:=HH.out.ho k H s S v hk hv
 have e0:=jA g1 0
 have HK:=fA (zKR _ s S v.s _ g2)
 clear h g1 g2 gI
 go_enter func29,ntmps29
 go_wp2_with (go_at_call 72;refine HK.out.mono ?_;rintro e w1 ⟨rfl,S',st,hq⟩)
 go_ret
 exact ⟨rfl,{ L with hb:=eH L.hb k (yA (H,s,S')) },HB.out.trans (HH.out.host hk hv st),fun m h=>h.set hk hq⟩
theorem zHC (ho:bH v.s) (hR:∀ x,w.heap.size<=x -> R x):iA prog 27 #[.pointer (yA ⟨C,0,none⟩),.agg #[i,a,b,d],.pointer (yA ⟨H,0,none⟩)] w (lL R C L 0 w (.int .i64 0) { c with h:=eH c.h k (yA ⟨v.s.scrub,v.up⟩) }):=by
 have hal:=wA w (.cells #[i,a,b,d] 32)
 have gI:=rB w (.cells #[i,a,b,d] 32)
 have HH:=fA (h.below hal)
 have HB:=fA (rC.refl h hal)
 obtain ⟨g1,g2⟩:=HH.out.ho k H s S v hk hv
 have e0:=jA g1 0
 have HK:=fA (zJa _ s S v.s _ g2 ho (fun x hx=>⟨hR x (pA hal.size hx),fun q=>by have:=HH.out.own_lt q;omega⟩))
 clear h g1 g2 gI
 go_enter func27,ntmps27
 go_wp2_with (go_at_call 70;refine HK.out.mono ?_;rintro e w1 ⟨r,rfl,S',st,hq⟩)
 go_ret
 exact ⟨rfl,{ L with hb:=eH L.hb k (yA (H,s,S')) },HB.out.trans (HH.out.host hk hv st),fun m h=>h.set hk hq⟩
theorem zHD (ho:bH v.s) (hb:(Lit.int .i64 b).wf=true):iA prog 28 #[.pointer (yA ⟨C,0,none⟩),.agg #[i,a,b,d],.pointer (yA ⟨H,0,none⟩)] w (lL R C L 0 w (.int .i64 (v.s.spoil b d).2) { c with h:=eH c.h k (yA ⟨(v.s.spoil b d).1,v.up⟩) }):=by
 have hal:=(wA w (.cells #[i,a,b,d] 32)).drew
 have gI:=iB (rB w (.cells #[i,a,b,d] 32))
 have HH:=fA (h.below hal)
 have HB:=fA (rC.refl h hal)
 obtain ⟨g1,g2⟩:=HH.out.ho k H s S v hk hv
 have e0:=jA g1 0
 have i2:=jA gI 2
 have i3:=jA gI 3
 have HK:=fA (zJb _ s S v.s b d _ g2 ho hb)
 clear h g1 g2 gI
 go_enter func28,ntmps28
 go_wp2_with fail
 refine iC (S:=fun V:uA=>V.cell? ⟨H,0,none⟩=yA (.pointer (yA ⟨s,0,none⟩))/\V.cell? ⟨w.heap.size,2,none⟩=yA (.int .i64 b)/\V.cell? ⟨w.heap.size,3,none⟩=yA (.int .i64 d)) [8,9] ⟨e0,i2,i3⟩ fun hH => ?_
 refine gU [0,1,2,103,4,105,6,107] ?_
 refine tU 8 fun K hK => ?_
 go_simp
 go_at_call 71
 refine HK.out.mono ?_
 rintro e w1 ⟨rfl,S',st,hq⟩
 refine hK.out _ _ ?_
 clear hK K
 refine tU 9 fun K hK => ?_
 go_simp
 refine hK.out _ _ ?_
 clear hK K
 refine gU [300] ?_
 go_wp2
 go_ret
 exact ⟨rfl,{ L with hb:=eH L.hb k (yA (H,s,S')) },HB.out.trans (HH.out.host hk hv st),fun m h=>h.set hk hq⟩
theorem zJC (ho:bH v.s) (hR:∀ x,w.heap.size<=x -> R x):iA prog 26 #[.pointer (yA ⟨C,0,none⟩),.agg #[i,a,b,d],.pointer (yA ⟨H,0,none⟩)] w (lL R C L 0 w (.int .i64 0) { c with h:=eH c.h k (yA ⟨v.s.restart,true⟩) }):=by
 have hal:=wA w (.cells #[i,a,b,d] 32)
 have gI:=rB w (.cells #[i,a,b,d] 32)
 have HH:=fA (h.below hal)
 have HB:=fA (rC.refl h hal)
 obtain ⟨g1,g2⟩:=HH.out.ho k H s S v hk hv
 have e0:=jA g1 0
 have HK:=fA (zFx _ s S v.s _ g2 ho (fun x hx=>⟨hR x (pA hal.size hx),fun q=>by have:=HH.out.own_lt q;omega⟩))
 clear h g1 g2 gI
 go_enter func26,ntmps26
 go_wp2_with (go_at_call 69;refine HK.out.mono ?_;rintro e w1 ⟨rfl,S',st,hq⟩;have HS:=fA (HH.out.host hk hv st);have HU:=fA (HS.out.at_.setUp (k:=k) (iF _ _ _) (iF _ _ _) true);obtain ⟨g3,_⟩:=HS.out.at_.ho k H s S' _ (iF _ _ _) (iF _ _ _);have f1:=qB g3 1;have e1:=jA g3 1;clear g3)
 go_ret
 refine ⟨rfl,{ L with hb:=eH L.hb k (yA (H,s,S')) },HB.out.trans (HS.out.trans ?_),fun m h=>h.set hk hq⟩
 have:=HU.out
 try dsimp only at this
 rwa [zGw] at this
end
theorem zEF (xs:List Bt) (node now:Int):(pN xs node now).length<=xs.length+1:=by
 have hfl:=zEz xs
 unfold pN
 generalize vG xs=ys at *
 split
 ·omega
 ·split
  ·rw [List.length_set];omega
  ·simp only [List.length_append,List.length_take,List.length_drop,List.length_cons,List.length_nil];omega
theorem cC (b:Nat) (w:uA):Below b w w:=⟨rfl,rfl,rfl,Nat.le_refl _,fun _ _=>rfl⟩
def Cl.beat (c:Cl) (a:Int):Cl:={ c with bs:=pN c.bs a c.t }
theorem zJx (R:Nat -> Prop) (C:Nat) (L:CL) (c:Cl) (i a b d:Int) (u:Value) (w:uA) (h:iG R w C L c) (hR:∀ x,w.heap.size<=x -> R x) (hl:c.bs.length<1000000):iA prog 23 #[.pointer (yA ⟨C,0,none⟩),.agg #[i,a,b,d],u] w (lL R C L 0 w (.int .i64 0) (c.beat a)):=by
 have hal:=(wA w (.cells #[i,a,b,d] 32)).drew
 have gI:=iB (rB w (.cells #[i,a,b,d] 32))
 have HH:=fA (h.below hal)
 have HB:=fA (rC.refl h hal)
 have HRV:=fA (fun x (hx:(w.alloc (.cells #[i,a,b,d] 32)).drew.heap.size<=x)=>hR x (pA hal.size hx))
 have GC:=fA HH.out.blk
 have HK:=fA (zKb L.bA L.bc c.bs a c.t (w.alloc (.cells #[i,a,b,d] 32)).drew HH.out.rb.1 hl)
 have HSS:Hid (∀ V,Below (w.alloc (.cells #[i,a,b,d] 32)).drew.heap.size (w.alloc (.cells #[i,a,b,d] 32)).drew V -> (fun V:uA=>V.cell? ⟨C,3,none⟩=yA (.slice L.bA c.bs.length L.bc)/\V.cell? ⟨w.heap.size,1,none⟩=yA (.int .i64 a)/\V.cell? ⟨C,12,none⟩=yA (.int .i64 c.t)) V):=fA fun V hb=>⟨jA (kA hb GC.out) 3,jA (kA hb gI) 1,jA (kA hb GC.out) 12⟩
 have hlen:=zEF c.bs a c.t
 have HF:Hid (∀ (w3:uA) (A1:Option Addr) (c1:Nat),w3.ownsRow (w.alloc (.cells #[i,a,b,d] 32)).drew.heap.size 173 2 (.slice A1 (pN c.bs a c.t).length c1) (pN c.bs a c.t).length (flat zU (pN c.bs a c.t)) -> Below (w.alloc (.cells #[i,a,b,d] 32)).drew.heap.size (w.alloc (.cells #[i,a,b,d] 32)).drew w3 -> rC R C L { L with bA:=A1,bc:=c1 } (c.beat a) w (w3.setCell ⟨C,3,none⟩ (.slice A1 (pN c.bs a c.t).length c1))/\∀ m,L.ok m -> CL.ok { L with bA:=A1,bc:=c1 } (m+0)):=fA fun w3 A1 c1 own1 hb3=>by
  have hC:fD [C] w3 (w3.setCell ⟨C,3,none⟩ (.slice A1 (pN c.bs a c.t).length c1)):=(fD.refl _ w3).setCell (.inl (by simp)) 3 _
  have h3:=HH.out.below hb3
  have gF:(w3.setCell ⟨C,3,none⟩ (.slice A1 (pN c.bs a c.t).length c1)).heap[C]?=yA (zNm (.slice L.nA c.ns.length L.nc) (.slice L.cA c.cs.length L.cc) (.slice A1 (pN c.bs a c.t).length c1) (.slice L.lA c.ls.length L.lc) (.slice L.dA c.ds.length L.dc) c.r c.t L.M (.slice L.eA c.net.length L.ec)):=by simpa using zD (i:=3) h3.blk (.slice A1 (pN c.bs a c.t).length c1)
  have hCl:C<(w.alloc (.cells #[i,a,b,d] 32)).drew.heap.size:=eB HH.out.blk
  have rb:vS (L.rd R (w3.setCell ⟨C,3,none⟩ (.slice A1 (pN c.bs a c.t).length c1)) C) zU (w3.setCell ⟨C,3,none⟩ (.slice A1 (pN c.bs a c.t).length c1)) A1 c1 (pN c.bs a c.t):=(((vS.of_own own1 (by omega)).chg hC fun x hx q=>by rw [xB] at q;have:=hx.1;omega)).mono fun x hx=>zBl HH.out HRV.out hx.1 (tA hx.2 hC.size)
  exact ⟨HB.out.trans ((rC.refl HH.out hb3).trans (h3.upd (L':={ L with bA:=A1,bc:=c1 }) (c':=c.beat a) hC rfl rfl rfl rfl rfl rfl rfl gF (h3.kn hC (wP C L)) (h3.kc hC (wP C L)) rb (h3.kl hC (wP C L)) (h3.kd hC (wP C L)))),fun _ h=>h⟩
 clear h hR hal gI hl hlen
 unfold Cl.beat at HF ⊢
 generalize pN c.bs a c.t=ys at *
 go_enter func23,ntmps23
 go_wp2_with fail
 refine iC (S:=fun V:uA=>V.cell? ⟨C,3,none⟩=yA (.slice L.bA c.bs.length L.bc)/\V.cell? ⟨w.heap.size,1,none⟩=yA (.int .i64 a)/\V.cell? ⟨C,12,none⟩=yA (.int .i64 c.t)) [16] (HSS.out _ (cC _ _)) fun hH => ?_
 refine gU [0,1,2,3,4,105,6,107,8,9,10,111] ?_
 refine oU 12 fun K hK => ?_
 go_simp
 go_at_call 63
 refine HK.out.mono ?_
 rintro e w3 ⟨A1,c1,rfl,own1,hb3⟩
 refine hK.out _ _ (HSS.out w3 hb3) fun hH => ?_
 clear hK K
 refine gU [13,14,15] ?_
 refine tU 16 fun K hK => ?_
 have gC3:=kA hb3 GC.out
 have c3:=jA gC3 3
 have f3:=qB gC3 3
 go_simp
 have HL:=fA (HF.out w3 A1 c1 own1 hb3)
 clear gC3 c3 f3 hb3 own1
 refine hK.out _ _ ?_
 clear hK K
 refine gU [300] ?_
 go_wp2
 go_ret
 exact ⟨rfl,_,HL.out⟩
def zPL (t n:Int) (o:Od):Bool:=decide (o.2.1=t) && decide (o.2.2.2.2.2.1=n)
def Cl.toldP (c:Cl) (t n:Int):Bool:=eU (zPL t n) (nE (fU c.t) c.ds)
theorem zJJ (B D:Nat) (t n:Int) (w:uA) (hl:B<w.heap.size) (hc:w.cell? ⟨B,0,none⟩=yA (.int .i64 t)) (hl2:D<w.heap.size) (hc2:w.cell? ⟨D,0,none⟩=yA (.int .i64 n)):yR 137 #[(B,0),(D,0)] (fun x:Od=>Value.agg (qL x).toArray) (zPL t n) w:=by
 rintro W ⟨x1,x2,x3,x4,x5,x6,x7⟩ hW
 have hal:=wA W (.cells #[x1,x2,x3,.int .u32 x4,x5,x6,x7] 105)
 have hcW:=((bcell hW).1 B 0 hl).trans hc
 have hlW:=tA hl hW.size
 have hcW2:=((bcell hW).1 D 0 hl2).trans hc2
 have hlW2:=tA hl2 hW.size
 show iA prog 137 #[.agg #[x1,x2,x3,.int .u32 x4,x5,x6,x7],.pointer (yA ⟨B,0,none⟩),.pointer (yA ⟨D,0,none⟩)] W fun e w'=>e=.returned (.bool (decide (x2=t) && decide (x6=n)))/\Below W.heap.size W w'
 clear hc hc2
 by_cases h:x2=t
 ·by_cases h2:x6=n
  all_goals (
   go_enter func137,ntmps137
   go_wp2
   go_ret
   exact ⟨bC (by simp [h,h2]),wA _ _⟩)
 ·go_enter func137,ntmps137
  go_wp2
  go_ret
  exact ⟨bC (by simp [h]),hal⟩
theorem zEo (R:Nat -> Prop) (C:Nat) (L:CL) (c:Cl) (t n:Int) (w:uA) (h:iG R w C L c):iA prog 66 #[(C,0),t,n] w fun e w'=>e=.returned (.bool (c.toldP t n))/\Below w.heap.size w w':=by
 obtain ⟨W,hW⟩:∃ W,W=(w.alloc (.cells #[t] 3)).alloc (.cells #[n] 3):=⟨_,rfl⟩
 have hal0:=yI w (.cells #[t] 3) (.cells #[n] 3)
 have q1:=kA (wA (w.alloc (.cells #[t] 3)) (.cells #[n] 3)) (rB w (.cells #[t] 3))
 have q2:=rB (w.alloc (.cells #[t] 3)) (.cells #[n] 3)
 rw [World.size_alloc] at q2
 rw [<- hW] at hal0 q1 q2
 have hal:=hal0.drew
 have HH:=fA (h.below hal)
 have GC:=fA HH.out.blk
 have HK:=fA (zIB L.bA L.lA L.dA L.bc L.lc L.dc c.bs c.ls c.ds c.t W.drew HH.out.rb.1 HH.out.rl.1 HH.out.rd.1)
 have HSS:Hid (∀ V,Below W.drew.heap.size W.drew V -> (fun V:uA=>V.cell? ⟨C,3,none⟩=yA (.slice L.bA c.bs.length L.bc)/\V.cell? ⟨C,4,none⟩=yA (.slice L.lA c.ls.length L.lc)/\V.cell? ⟨C,5,none⟩=yA (.slice L.dA c.ds.length L.dc)/\V.cell? ⟨C,12,none⟩=yA (.int .i64 c.t)) V):=fA fun V hb=>⟨jA (kA hb GC.out) 3,jA (kA hb GC.out) 4,jA (kA hb GC.out) 5,jA (kA hb GC.out) 12⟩
 have hmd:=HH.out.rd.1.max
 have HF:Hid (∀ (w3:uA) (A3:Option Addr) (c3:Nat),w3.ownsRow W.drew.heap.size 105 7 (.slice A3 (nE (fU c.t) c.ds).length c3) (nE (fU c.t) c.ds).length (flat qL (nE (fU c.t) c.ds)) -> Below W.drew.heap.size W.drew w3 -> iA prog 138 #[.slice A3 (nE (fU c.t) c.ds).length c3,.func (.func 137) #[] #[.pointer (yA ⟨w.heap.size,0,none⟩),.pointer (yA ⟨w.heap.size+1,0,none⟩)]] w3 fun e w'=>e=.returned (.bool (c.toldP t n))/\Below W.drew.heap.size W.drew w'):=fA fun w3 A3 c3 own3 hb3 =>
  (zKa A3 c3 _ 137 _ (fun _ _=>rfl) (zPL t n) w3 (yB.of_own own3 (pA (wJ _ _) hmd)) (zJJ _ _ t n w3 (eB (kA hb3 (iB q1))) (jA (kA hb3 (iB q1)) 0) (eB (kA hb3 (iB q2))) (jA (kA hb3 (iB q2)) 0))).mono fun e w' he=>⟨he.1,hb3.trans (he.2.mono hb3.size)⟩
 have HW:=fA hW
 have hfd:∀ (W:uA) (a b c:Value),(Instr.field 56 (.agg #[a,b,c]) 2).run prog W=.ok c W:=fun _ _ _ _=>by kernel_rfl
 clear h hal0 q1 q2 hmd hW
 generalize c.toldP t n=q at *
 go_enter func66,ntmps66
 go_wp2_with fail
 rw [<- HW.out]
 refine iC (S:=fun V:uA=>V.cell? ⟨C,3,none⟩=yA (.slice L.bA c.bs.length L.bc)/\V.cell? ⟨C,4,none⟩=yA (.slice L.lA c.ls.length L.lc)/\V.cell? ⟨C,5,none⟩=yA (.slice L.dA c.ds.length L.dc)/\V.cell? ⟨C,12,none⟩=yA (.int .i64 c.t)) [11,12] (HSS.out _ (cC _ _)) fun hH => ?_
 refine gU [0,1,2,103,4,5,6,107,10] ?_
 refine oU 8 fun K hK => ?_
 go_simp
 go_at_call 104
 refine HK.out.mono ?_
 rintro e w3 ⟨A1,c1,B1,d1,A3,c3,rfl,_,_,own3,_,hb3⟩
 refine hK.out _ _ (HSS.out w3 hb3) fun hH => ?_
 clear hK K
 refine gU [9] ?_
 refine tU 11 fun K hK => ?_
 go_simp
 go_at_call 138
 refine (HF.out w3 A3 c3 own3 hb3).mono ?_
 rintro e w4 ⟨rfl,hb4⟩
 have HL:=fA (hal.trans (hb4.mono hal.size))
 refine hK.out _ _ ?_
 clear hK K
 refine tU 12 fun K hK => ?_
 go_simp
 refine hK.out _ _ ?_
 clear hK K
 refine gU [300] ?_
 clear hH
 go_wp2
 go_ret
 exact ⟨rfl,HL.out⟩
theorem dS (R : Nat -> Prop) (C : Nat) (L : CL) (c : Cl) (n u : Bool) (g : Nat) (eg : ∀ args w, (callFunc g args).run prog w = .ok (.enter g args) w) (B : Nat) (k a b d : Int) (N : Nat) (F : zHu -> Cl × Int) (w : uA) (h : iG R w C L c) (hf : zQW C n u g B w) (ha : Wf a)
  (HD:∀ (V:uA) (H s:Nat) (S:SL) (v:zHu),Below w.heap.size w V -> L.hb a=yA (H,s,S) -> c.h a=yA v -> iA prog g #[.pointer (yA ⟨C,0,none⟩),.agg #[k,a,b,d],.pointer (yA ⟨H,0,none⟩)] V (lL R C L N V (.int .i64 (F v).2) (F v).1)) :
  iA prog 62 #[.agg #[k,a,b,d],.pointer (yA ⟨B,0,none⟩),.pointer (yA ⟨B+1,0,none⟩),.pointer (yA ⟨B+2,0,none⟩),.pointer (yA ⟨B+3,0,none⟩)] w (lL R C L N w (.int .i64 (c.atF a n u F).2) (c.atF a n u F).1):=by
 have hal:=(wA w (.cells #[k,a,b,d] 32)).drew
 have gI:=iB (rB w (.cells #[k,a,b,d] 32))
 obtain ⟨f0,f1,f2,f3⟩:=hf
 have HH:=fA h
 have gC:=kA hal h.blk
 have hlk:=(h.below hal).mp.look ha
 have HF:=fA (gG (kA hal f0) (gG (kA hal f1) (gG (kA hal f2) (kA hal f3))))
 have hfn:=h.hn a
 have HC0:=fA (h.below hal)
 have HST:=fA (rC.refl h hal)
 have HDD:=fA (fun V H s S v (hb:Below (w.alloc (.cells #[k,a,b,d] 32)).drew.heap.size (w.alloc (.cells #[k,a,b,d] 32)).drew V)=>HD V H s S v (hal.trans (hb.mono hal.size)))
 generalize hfe:hkey (L.hb a)=fh at *
 have HS1:Hid ((fun V:uA=>V.cell? ⟨B,0,none⟩=yA (.pointer (yA ⟨C,0,none⟩))/\V.cell? ⟨C,13,none⟩=yA (.map (yA L.M))/\V.cell? ⟨w.heap.size,1,none⟩=yA (.int .i64 a)/\(eE 46 (.map (yA L.M)) (.int .i64 a) false).run prog V=.ok fh V) (w.alloc (.cells #[k,a,b,d] 32)).drew):=fA ⟨jA HF.out.1 0,jA gC 13,jA gI 1,hlk⟩
 clear h HD gC hlk f0 f1 f2 f3 hal
 go_enter func62,ntmps62
 go_wp2_with fail
 refine iC (S:=fun V:uA=>V.cell? ⟨B,0,none⟩=yA (.pointer (yA ⟨C,0,none⟩))/\V.cell? ⟨C,13,none⟩=yA (.map (yA L.M))/\V.cell? ⟨w.heap.size,1,none⟩=yA (.int .i64 a)/\(eE 46 (.map (yA L.M)) (.int .i64 a) false).run prog V=.ok fh V) [] HS1.out fun hH => ?_
 refine gU [100,1,2,103,4,105,106,7,300] ?_
 clear hH
 generalize (w.alloc (.cells #[k,a,b,d] 32)).drew=W at *
 have p0:=jA HF.out.1 0
 have p1:=jA HF.out.2.1 0
 have p2:=jA HF.out.2.2.1 0
 have p3:=jA HF.out.2.2.2 0
 have i0:=jA gI 0
 have i1:=jA gI 1
 have i2:=jA gI 2
 have i3:=jA gI 3
 clear gI
 cases hh:L.hb a with
 | none =>
  have HZ:Hid (c.atF a n u F=(c,5)):=fA (by unfold Cl.atF;rw [hfn.1 hh])
  obtain rfl:fh=.pointer none:=by rw [<- hfe,hh];rfl
  go_wp2
  go_ret
  rw [HZ.out]
  exact ⟨rfl,L,HST.out,fun m h=>h.mono (mF _ _)⟩
 | some x =>
  obtain ⟨H,s,S⟩:=x
  cases hv:c.h a with
  | none=>rw [hfn.2 hv] at hh;cases hh
  | some v =>
   obtain rfl:fh=.pointer (yA ⟨H,0,none⟩):=by rw [<- hfe,hh];rfl
   have g1:=(HC0.out.ho a H s S v hh hv).1
   have e1:=jA g1 1
   have HZ:Hid (c.atF a n u F=if (n && !(v.up == u))=true then (c,8) else F v):=fA (by unfold Cl.atF;rw [hv])
   have HG:=fA (fun V (hb:Below W.heap.size W V)=>HDD.out V H s S v hb hh hv)
   generalize F v=fz at *
   generalize v.up=up at *
   clear g1 hfn hfe hh hv HDD HS1 HF
   cases n with
   | false =>
    have HZ2:Hid (c.atF a false u F=fz):=fA (by rw [HZ.out];rfl)
    go_wp2_with fail
    refine iC (S:=fun V:uA=>V.cell? ⟨B+1,0,none⟩=yA (.bool false)/\V.cell? ⟨B+2,0,none⟩=yA (.bool u)/\V.cell? ⟨H,1,none⟩=yA (.bool up)) [] ⟨p1,p2,e1⟩ fun hH => ?_
    refine gU [100,1,202,203,204,205,206,207,8,9,300] ?_
    clear hH
    go_wp2_with (go_at_fn g;refine (HG.out _ (xC _).drew).mono ?_;rintro e w2 ⟨rfl,L2,st,hq⟩)
    go_ret
    rw [HZ2.out]
    exact ⟨rfl,L2,HST.out.trans ((rC.refl HC0.out (xC _).drew).trans st),hq⟩
   | true =>
    go_wp2_with fail
    refine iC (S:=fun V:uA=>V.cell? ⟨B+1,0,none⟩=yA (.bool true)/\V.cell? ⟨B+2,0,none⟩=yA (.bool u)/\V.cell? ⟨H,1,none⟩=yA (.bool up)) [] ⟨p1,p2,e1⟩ fun hH => ?_
    refine gU [100,1,2,3,4,105,106,7,8,9,300] ?_
    clear hH
    generalize hq:(up == u)=q at *
    cases q with
    | false =>
     have HZ2:Hid (c.atF a true u F=(c,8)):=fA (by rw [HZ.out];rfl)
     go_wp2
     go_ret
     rw [HZ2.out]
     exact ⟨rfl,L,HST.out.trans (rC.refl HC0.out (xC _).drew),fun m h=>h.mono (mF _ _)⟩
    | true =>
     have HZ2:Hid (c.atF a true u F=fz):=fA (by rw [HZ.out];rfl)
     go_wp2_with (go_at_fn g;refine (HG.out _ (xC _).drew).mono ?_;rintro e w2 ⟨rfl,L2,st,hq⟩)
     go_ret
     rw [HZ2.out]
     exact ⟨rfl,L2,HST.out.trans ((rC.refl HC0.out (xC _).drew).trans st),hq⟩
def Cl.repK (a:Int) (c:Cl) (x:Cx):Cl:=if (decide (x.2.2.1=5) && c.toldP x.2.2.2.1 a)=true then c else (c.knw x.2.2.1 x.2.2.2.1 x.2.2.2.2.1 x.2.2.2.2.2).1
def Cl.repA (c:Cl) (a:Int) (rep:List Rp):Cl:=(sS c.cs a rep).foldl (Cl.repK a) c
def Cl.repO (c:Cl) (a:Int) (x:Rp):Od:=(1,x.1,x.2.1,x.2.2.1,a,a,c.t+c.r.2.2.2.2.1)
def Cl.repN (c:Cl) (a:Int) (st:List Int) (rep:List Rp):List Od:=(rep.filter (fun x=>ctn st x.1)).map (c.repO a)
def Cl.repB (c:Cl) (a:Int) (rep:List Rp):Cl:={ c with net:=c.net ++ c.repN a (zBo c.cs rep) rep }
def Cl.report (c:Cl) (a:Int) (rep:List Rp):Cl:=(c.repA a rep).repB a rep
theorem zII (cs:List Ch) (a:Int) (rep:List Rp):∀ x ∈ sS cs a rep,x.1=0/\(x.2.2.1=5\/x.2.2.1=6):=fun x hx=>by
 unfold sS at hx
 split at hx
 ·obtain ⟨c,_,h⟩:=List.mem_flatMap.1 hx
  unfold zAi at h
  split at h
  ·rw [xB] at h;subst h;exact ⟨rfl,.inl rfl⟩
  ·split at h
   ·rw [xB] at h;subst h;exact ⟨rfl,.inr rfl⟩
   ·cases h
 ·cases hx
theorem rC.row {α:Type} {enc:α -> List Value} {R:Nat -> Prop} {w w':uA} {C:Nat} {L L':CL} {c':Cl} {A:Option Addr} {n:Nat} {xs:List α} (st:rC R C L L' c' w w') (h:yB enc w A n xs) (hA:∀ x ∈ zB A,¬ L.own C x):yB enc w' A n xs:=by
 obtain ⟨T,hT,hC⟩:=st.chg.list
 exact h.chg hC fun x hx q=>hA x hx (hT x q).1
theorem rC.blk {R:Nat -> Prop} {w w':uA} {C:Nat} {L L':CL} {c':Cl} (st:rC R C L L' c' w w') {x:Nat} {o:Obj} (hx:w.heap[x]?=yA o) (hn:¬ L.own C x):w'.heap[x]?=yA o:=by
 obtain ⟨T,hT,hC⟩:=st.chg.list
 exact hC.keep hx fun q=>hn (hT _ q).1
theorem iG.netApp {R:Nat -> Prop} {w w5:uA} {C:Nat} {L:CL} {c:Cl} (h:iG R w C L c) {A:Option Addr} {n a:Nat} {ys:List Od} (own5:w5.ownsRow 0 105 7 (.slice A n a) n (flat qL c.net ++ flat qL ys)) (hn:n=(c.net ++ ys).length) (hC:fD (zB L.eA) w w5) (hA:∀ x ∈ zB A,x ∈ zB L.eA\/w.heap.size<=x) :
  rC R C L { L with eA:=A,ec:=a } { c with net:=c.net ++ ys } w (w5.setCell ⟨C,14,none⟩ (.slice A n a)):=by
 subst hn
 have hCl:=eB h.blk
 have hno:C ∉ zB L.eA:=fun q=>(h.ce _ q).1 rfl
 have h5:fD (C :: zB L.eA) w w5:=hC.mono fun x hx=>.inl (List.mem_cons_of_mem _ hx)
 have g5:=hC.keep h.blk hno
 rw [<- uD] at own5
 refine h.setNet (h5.setCell (.inl (by simp)) 14 _) (by simpa using zD (i:=14) g5 (.slice A (c.net ++ ys).length a)) (rE own5 (fun x hx e => ?_) 14 _) hA
 rcases hA x hx with q | q
 ·exact hno (e ▸ q)
 ·omega
theorem zOV {w:uA} {base:Nat} {e:TypeId} {k n c m:Nat} {A:Option Addr} {xs:List Value} (h:w.ownsRow base e k (.slice A n c) m xs) (hn:0<m):∃ g,A=yA ⟨g,0,none⟩:=by
 obtain ⟨g,c',hv,_⟩:=h.form (by omega)
 injection hv with e
 exact ⟨g,e⟩
theorem iG.netNew {R:Nat -> Prop} {w w6:uA} {C:Nat} {L:CL} {c:Cl} (h:iG R w C L c) (hb:Below w.heap.size w w6) {base:Nat} {A:Option Addr} {n a:Nat} {net':List Od} (own:w6.ownsRow base 105 7 (.slice A n a) n (flat qL net')) (hbase:w.heap.size<=base) (hn:n=net'.length):rC R C L { L with eA:=A,ec:=a } { c with net:=net' } w (w6.setCell ⟨C,14,none⟩ (.slice A n a)):=by
 subst hn
 have hCl:=eB h.blk
 have hC:fD (C :: zB L.eA) w w6:=fD.of_below hb
 refine h.setNet (hC.setCell (.inl (by simp)) 14 _) (by simpa using zD (i:=14) (kA hb h.blk) (.slice A net'.length a)) (rE (oC own (Nat.zero_le _)) (fun x hx e => ?_) 14 _) (fun x hx=>.inr (pA hbase (qC own x hx).1))
 have:=(qC own x hx).1
 omega
theorem zIi (c:Cl) (K p q r:Int):∃ ns cs,(c.knw K p q r).1={ c with ns:=ns,cs:=cs }:=by
 unfold Cl.knw Cl.knownZ
 split
 ·exact ⟨c.ns,c.cs,rfl⟩
 ·exact ⟨_,_,rfl⟩
end Go.Proofs.YtogbpifcmhafkaaGreat
