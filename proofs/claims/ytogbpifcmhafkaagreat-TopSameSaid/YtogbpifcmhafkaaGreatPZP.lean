/-
 Part PZP of the proof.
-/
import Derived.Test.YtogbpifcmhafkaaGreatPZO
open Go renaming World->uA
open Go.Instr renaming lookup->eE
open Go.Lib renaming hid->fA
open Go.RowKit renaming Hid->jC
open Go.RowKit.Below renaming refl->cC
open List renaming getElem_mem->wC,length_append->kB,length_filter_le->eC,length_map->mC,length_take->sB,take_length->sJ,take_succ_eq_append_getElem->tB
open Nat renaming le_add_right->mF,le_refl->mA,le_trans->pA,zero_le->vC
open Option renaming some->yA
namespace Go.Proofs.YtogbpifcmhafkaaGreat
open Go.RowKit Tryz
open Go.Lib(hid)
set_option linter.unusedVariables false
set_option linter.unusedSimpArgs false
set_option maxRecDepth 100000
set_option maxHeartbeats 16000000
def isR (t v:Int) (x:Rp):Bool:=decide (x.1=t) && decide (x.2.1=v)
def Cl.does (c:Cl) (o:Od) (k:Int) (v:zHu):Cl:=if o.1=0 then c.copies o k v else if eU (isR o.2.1 o.2.2.1) v.s.report then { c with h:=eH c.h k (yA ⟨(v.s.remove o.2.1).1,v.up⟩) } else c
theorem zJw (B:Nat) (t v:Int) (w:uA) (hl:B<w.heap.size) (hc:w.cell? ⟨B,1,none⟩=yA (.int .i64 t)) (hc2:w.cell? ⟨B,2,none⟩=yA (.int .i64 v)):yR 111 #[(B,0)] (fun x:Rp=>Value.agg (fJ x).toArray) (isR t v) w:=by
 rintro W ⟨x1,x2,x3,x4,x5⟩ hW
 have hal:=wA W (.cells #[x1,x2,.int .u32 x3,.bool x4,.bool x5] 124)
 have hcW:=((bcell hW).1 B 1 hl).trans hc
 have hcW2:=((bcell hW).1 B 2 hl).trans hc2
 have hlW:=Nat.lt_of_lt_of_le hl hW.size
 show Calls prog 111 #[.agg #[x1,x2,.int .u32 x3,.bool x4,.bool x5],.pointer (yA ⟨B,0,none⟩)] W fun e w'=>e=.returned (.bool (decide (x1=t) && decide (x2=v)))/\Below W.heap.size W w'
 clear hc hc2
 by_cases h:x1=t
 ·by_cases h2:x2=v
  all_goals (
   go_enter func111,ntmps111
   go_wp2
   go_ret
   exact ⟨bC (by simp [h,h2]),wA _ _⟩)
 ·go_enter func111,ntmps111
  go_wp2
  go_ret
  exact ⟨bC (by simp [h]),hal⟩
theorem zJz (R : Nat -> Prop) (C : Nat) (L : CL) (c : Cl) (o1 o2 o3 o4 o5 o6 o7 k : Int) (H s : Nat) (S : SL) (v : zHu) (w : uA) (h : iG R w C L c) (hk : L.hb k = yA (H, s, S)) (hv : c.h k = yA v) (ho : ∀ k v, c.h k = yA v -> bH v.s) (hR : ∀ x, w.heap.size <= x -> R x) (ht : (Lit.int .i64 o2).wf = true) (ht5 : (Lit.int .i64 o5).wf = true) (m : Nat) (hm : L.ok m) (hm2 : m + 1 < 1000000) :
  Calls prog 53 #[.pointer (yA ⟨C,0,none⟩),.agg #[o1,o2,o3,.int .u32 o4,o5,o6,o7],.pointer (yA ⟨H,0,none⟩)] w (lL R C L 2 w (.tuple #[]) (c.does (o1,o2,o3,o4,o5,o6,o7) k v)):=by
 have hal:=wA w (.cells #[o1,o2,o3,.int .u32 o4,o5,o6,o7] 105)
 have gX:=rB w (.cells #[o1,o2,o3,.int .u32 o4,o5,o6,o7] 105)
 have hWw:=hal.size
 have HH:=fA h
 have hR2:=fun (V:uA) (hs:w.heap.size<=V.heap.size) x (hx:V.heap.size<=x)=>hR x (pA hs hx)
 by_cases h1:o1=0
 ·subst h1
  have HCP:=fA (zGP R C L c 0 o2 o3 o4 o5 o6 o7 k H s S v _ (h.below hal) hk hv ho (hR2 _ hWw) ht ht5 m hm hm2)
  have HZ:jC (c.does (0,o2,o3,o4,o5,o6,o7) k v=c.copies (0,o2,o3,o4,o5,o6,o7) k v):=fA (by unfold Cl.does;rw [if_pos rfl])
  have x0:=jA gX 0
  have x1:=jA gX 1
  have x2:=jA gX 2
  have x3:=jA gX 3
  have x4:=jA gX 4
  have x5:=jA gX 5
  have x6:=jA gX 6
  clear h hk hv ho hR hm gX hR2
  go_enter func53,ntmps53
  go_wp2_with (go_at_call 110;refine HCP.out.mono ?_;rintro e w2 ⟨rfl,L2,st,hq⟩)
  go_end0
  rw [HZ.out]
  exact ⟨rfl,L2,(rC.refl HH.out hal).trans st,hq⟩
 ·obtain ⟨g1,g2⟩:=(h.below hal).ho k H s S v hk hv
  have e0:=jA g1 0
  have x0:=jA gX 0
  have HRP:=fA (zDj _ s S v.s _ g2)
  have hrl:=zAj v.s
  have hsl:=(ho k v hv).l
  have HP:=fA (fun (V:uA) A cc (hb:Below (w.alloc (.cells #[o1,o2,o3,.int .u32 o4,o5,o6,o7] 105)).heap.size (w.alloc (.cells #[o1,o2,o3,.int .u32 o4,o5,o6,o7] 105)) V) (hr:V.ownsRow (w.alloc (.cells #[o1,o2,o3,.int .u32 o4,o5,o6,o7] 105)).heap.size 124 5 (.slice A v.s.report.length cc) v.s.report.length (flat fJ v.s.report))=>zED A cc v.s.report 111 #[.pointer (yA ⟨w.heap.size,0,none⟩)] (fun _ _=>rfl) (isR o2 o3) V (yB.of_own hr (by omega)) (zJw w.heap.size o2 o3 V (eB (kA hb gX)) (jA (kA hb gX) 1) (jA (kA hb gX) 2)))
  have HRM0:=fA (fun (V:uA) (hb:Below (w.alloc (.cells #[o1,o2,o3,.int .u32 o4,o5,o6,o7] 105)).heap.size (w.alloc (.cells #[o1,o2,o3,.int .u32 o4,o5,o6,o7] 105)) V)=>zDi (fun x=>R x/\¬ L.own C x) s S v.s o2 V (((h.below hal).below hb).ho k H s S v hk hv).2 (ho k v hv) (fun x hx=>⟨hR x (pA hWw (pA hb.size hx)),fun q=>by have:=((h.below hal).below hb).own_lt q;omega⟩) ht)
  have HC:jC (∀ V,Below (w.alloc (.cells #[o1,o2,o3,.int .u32 o4,o5,o6,o7] 105)).heap.size (w.alloc (.cells #[o1,o2,o3,.int .u32 o4,o5,o6,o7] 105)) V -> V.cell? ⟨H,0,none⟩=yA (.pointer (yA ⟨s,0,none⟩))/\V.cell? ⟨w.heap.size,1,none⟩=yA (.int .i64 o2)):=fA fun V hb=>⟨jA (kA hb g1) 0,jA (kA hb gX) 1⟩
  have HST:=fA (fun (V V2:uA) S2 (hb:Below (w.alloc (.cells #[o1,o2,o3,.int .u32 o4,o5,o6,o7] 105)).heap.size (w.alloc (.cells #[o1,o2,o3,.int .u32 o4,o5,o6,o7] 105)) V) (st:qI (fun x=>R x/\¬ L.own C x) s S S2 (v.s.remove o2).1 V V2) (hq:S2.n<=S.n+0)=>(show lL R C L 2 w (.tuple #[]) { c with h:=eH c.h k (yA ⟨(v.s.remove o2).1,v.up⟩) } (.returned (.tuple #[])) V2 from ⟨rfl,{ L with hb:=eH L.hb k (yA (H,s,S2)) },(rC.refl h (hal.trans (hb.mono hWw))).trans (((h.below hal).below hb).host hk hv st),fun m hm=>(hm.set hk hq).mono (by omega)⟩))
  have HZ:jC (c.does (o1,o2,o3,o4,o5,o6,o7) k v=if eU (isR o2 o3) v.s.report then { c with h:=eH c.h k (yA ⟨(v.s.remove o2).1,v.up⟩) } else c):=fA (by unfold Cl.does;rw [if_neg h1])
  generalize v.s.report=rep at *
  generalize eU (isR o2 o3) rep=q at *
  clear h hk hv ho hR hm gX hR2 g1 g2
  go_enter func53,ntmps53
  cases q with
  | false =>
   go_wp2_with (first
    | (go_at_call 64;refine HRP.out.mono ?_;rintro e w3 ⟨A3,c3,rfl,own3,hb3⟩)
    | (go_at_call 112;refine (HP.out _ A3 c3 hb3 own3).mono ?_;rintro e w4 ⟨rfl,hb4⟩;have hb34:=hb3.trans (hb4.mono hb3.size)))
   go_end0
   rw [HZ.out]
   exact ⟨rfl,L,rC.refl HH.out (hal.trans (hb34.mono hWw)),fun m h=>h.mono (mF _ _)⟩
  | true =>
   have HZ2:jC (c.does (o1,o2,o3,o4,o5,o6,o7) k v={ c with h:=eH c.h k (yA ⟨(v.s.remove o2).1,v.up⟩) }):=fA (by rw [HZ.out];rfl)
   go_wp2_with (first
    | (go_at_call 64;refine HRP.out.mono ?_;rintro e w3 ⟨A3,c3,rfl,own3,hb3⟩)
    | (go_at_call 112;refine (HP.out _ A3 c3 hb3 own3).mono ?_;rintro e w4 ⟨rfl,hb4⟩;have hb34:=(hb3.trans (hb4.mono hb3.size)).drew;obtain ⟨e0',x1'⟩:=HC.out _ hb34;have HRM:=fA (HRM0.out _ hb34);have HFI:=fA (fun V2 S2 st hq=>by have:=HST.out _ V2 S2 hb34 st hq;exact this)))
   refine iC (S:=fun V:uA=>V.cell? ⟨H,0,none⟩=yA (.pointer (yA ⟨s,0,none⟩))/\V.cell? ⟨w.heap.size,1,none⟩=yA (.int .i64 o2)) [6] ⟨e0',x1'⟩ fun hH => ?_
   refine gU [0,1,2,103,4,105] ?_
   refine tU 6 fun K hK => ?_
   go_simp
   go_at_call 113
   refine HRM.out.mono ?_
   rintro e w5 ⟨rfl,S5,st5,hq5⟩
   refine hK.out _ _ ?_
   clear hK K
   refine gU [300] ?_
   clear hH
   go_wp2
   go_end0
   rw [HZ2.out]
   exact HFI.out w5 S5 st5 hq5
theorem zKJ (cs:List Ch) (node:Int) (rep:List Rp):(sS cs node rep).length<=cs.length:=by
 have key:∀ l:List Ch,(l.flatMap (zAi node rep)).length<=l.length:=fun l=>by
  induction l with
  | nil=>exact mA _
  | cons x l ih =>
   rw [List.flatMap_cons,kB,List.length_cons]
   have:=zKK node rep x
   omega
 unfold sS
 split
 ·exact key cs
 ·exact vC _
theorem zMW (cs:List Ch) (rep:List Rp) (st:List Int) (h:zBo cs rep=st):st.length<=rep.length:=by
 rw [<- h]
 unfold zBo
 split
 ·refine pA (zDI _) ?_
  rw [sR,mC]
  exact eC _ _
 ·exact vC _
theorem zMK (c : Cl) (a : Int) (rep : List Rp) : ∃ ns cs, c.repA a rep = { c with ns := ns, cs := cs } := by
 unfold Cl.repA
 generalize sS c.cs a rep=l
 have key:∀ (l:List Cx) (c':Cl),(∃ ns cs,c'={ c with ns:=ns,cs:=cs }) -> ∃ ns cs,l.foldl (Cl.repK a) c'={ c with ns:=ns,cs:=cs }:=by
  intro l
  induction l with
  | nil=>intro c' h;exact h
  | cons x l ih =>
   intro c' h
   refine ih _ ?_
   unfold Cl.repK
   split
   ·exact h
   ·obtain ⟨n1,s1,rfl⟩:=h
    obtain ⟨n2,s2,e⟩:=zIi { c with ns:=n1,cs:=s1 } x.2.2.1 x.2.2.2.1 x.2.2.2.2.1 x.2.2.2.2.2
    exact ⟨n2,s2,e⟩
 exact key l c ⟨c.ns,c.cs,rfl⟩
theorem zPk (c:Cl) (a:Int) (st:List Int) (pre:List Rp) (x:Rp) (h:ctn st x.1=true):c.repN a st (pre ++ [x])=c.repN a st pre ++ [c.repO a x]:=by simp [Cl.repN,h]
theorem zQJ (c:Cl) (a:Int) (st:List Int) (pre:List Rp) (x:Rp) (h:ctn st x.1=false):c.repN a st (pre ++ [x])=c.repN a st pre:=by simp [Cl.repN,h]
theorem zIM (c:Cl) (a:Int) (st:List Int) (pre:List Rp):(c.repN a st pre).length<=pre.length:=by unfold Cl.repN;rw [mC];exact eC _ _
theorem zGQ (R:Nat -> Prop) (C:Nat) (L:CL) (c:Cl) (i a b d k:Int) (H s:Nat) (S:SL) (v:zHu) (w:uA) (h:iG R w C L c) (hk:L.hb k=yA (H,s,S)) (hv:c.h k=yA v) (ho:bH v.s) (hR:∀ x,w.heap.size<=x -> R x) (hn:c.net.length<=2000000) (ht:0<=c.t/\c.t<=1000000000) (hru:vT c.r=true) :
  Calls prog 24 #[.pointer (yA ⟨C,0,none⟩),.agg #[i,a,b,d],.pointer (yA ⟨H,0,none⟩)] w (lL R C L 0 w (.int .i64 0) (c.report a v.s.report)):=by
 have hal:=wA w (.cells #[i,a,b,d] 32)
 have gI:=rB w (.cells #[i,a,b,d] 32)
 have hWw:=hal.size
 have hrd:=(zDA hru)
 obtain ⟨I,hI⟩:∃ I,I=w.heap.size:=⟨_,rfl⟩
 have hlt0:∀ x,L.own C x -> x<I:=fun x hx=>by rw [hI];exact h.own_lt hx
 have hR0:∀ V:uA,w.heap.size<=V.heap.size -> ∀ x,V.heap.size<=x -> R x:=fun V hs x hx=>hR x (pA hs hx)
 have hIW:I+1=(w.alloc (.cells #[i,a,b,d] 32)).heap.size:=by rw [hI];simp
 have HH:=fA h
 have hW:=h.below hal
 obtain ⟨g1,g2⟩:=hW.ho k H s S v hk hv
 have e0:=jA g1 0
 have HRP:=fA (zDj _ s S v.s _ g2)
 have hrl:v.s.report.length<=16:=pA (zAj v.s) ho.l
 have HST0:=fA (rC.refl h hal)
 generalize v.s.report=rep at *
 rw [<- hI] at gI
 clear h hk hv ho hR hal g1 g2
 have HI:=fA hI
 clear hI
 go_enter func24,ntmps24
 go_upto_region 2 with (go_at_call 64;refine HRP.out.mono ?_;rintro e w1 ⟨A1,c1,rfl,own1,hb1⟩)
 rw [<- HI.out]
 have hb01:=hb1.drew
 have HRC:=fA (fun V (hb:Below (w.alloc (.cells #[i,a,b,d] 32)).heap.size (w.alloc (.cells #[i,a,b,d] 32)) V) A cc (hi:yB fJ V A cc rep)=>zMJ L.cA A L.cc cc c.cs a rep V ((hW.below hb).rc.in_) hi)
 have HS2:jC (∀ V,Below (w.alloc (.cells #[i,a,b,d] 32)).heap.size (w.alloc (.cells #[i,a,b,d] 32)) V -> (fun V:uA=>V.cell? ⟨C,1,none⟩=yA (.slice L.cA c.cs.length L.cc)/\V.cell? ⟨I,1,none⟩=yA (.int .i64 a)) V):=fA fun V hb=>⟨jA (kA hb hW.blk) 1,jA (kA hb gI) 1⟩
 have hR1:yB fJ w1 A1 c1 rep:=yB.of_own own1 (by omega)
 have HR1:=fA hR1
 have HOW1:=fA own1
 have HO1:=fA (fun x hx=>(qC own1 x hx).1)
 have hR1d:yB fJ w1.drew A1 c1 rep:=hR1.drew
 have HAL:=fA hW
 have GI:=fA gI
 clear own1 hR1
 refine iC (S:=fun V:uA=>V.cell? ⟨C,1,none⟩=yA (.slice L.cA c.cs.length L.cc)/\V.cell? ⟨I,1,none⟩=yA (.int .i64 a)) [] (HS2.out _ hb01) fun hH => ?_
 refine gU [0,1,2,3,104,5,106,7,10] ?_
 refine oU 8 fun K hK => ?_
 go_simp
 go_at_call 65
 (with_reducible refine (HRC.out _ hb01 A1 c1 hR1d).mono ?_)
 rintro e w3 ⟨A3,c3,rfl,own3,hb3⟩
 have hb03:=hb01.trans (hb3.mono hb01.size)
 refine hK.out _ _ (HS2.out _ hb03) fun hH => ?_
 clear hK K
 refine gU [9,300] ?_
 clear hH
 have A3c:=fA (hW.below hb03)
 have HN:jC (∀ x,I<=x -> ¬ L.own C x):=fA fun x hx q=>by have:=hlt0 x q;omega
 have hxm:(sS c.cs a rep).length<=1000000:=pA (zKJ _ _ _) hW.rc.in_.max
 have hIs:I<=w1.drew.heap.size:=by have:(w.alloc (.cells #[i,a,b,d] 32)).heap.size<=w1.drew.heap.size:=hb01.size;omega
 have HX3:=fA (yB.of_own own3 hxm)
 have HO3:jC (∀ x ∈ zB A3,¬ L.own C x):=fA fun x hx=>HN.out x (pA hIs (qC own3 x hx).1)
 have HO1':jC (∀ x ∈ zB A1,¬ L.own C x):=fA fun x hx=>HN.out x (pA (by omega) (HO1.out x hx))
 have HR3:=fA (hR1d.below (hb3.mono (mA _)))
 have GI3:=fA (kA hb03 GI.out)
 have HB1:jC (∀ x ∈ zB A1,¬ w3.heap.size<=x):=fA fun x hx q=>by have:=(qC HOW1.out x hx).2;have:=hb1.size;have:=hb3.size;have:w1.heap.size<=w3.heap.size:=hb3.size;omega
 have HKD:=fA (zII c.cs a rep)
 have HST3:=fA (HST0.out.trans (rC.refl HAL.out hb03))
 have hws3:w.heap.size<=w3.heap.size:=HST3.out.chg.size
 have HZA:jC (c.repA a rep=(sS c.cs a rep).foldl (Cl.repK a) c):=fA rfl
 clear own3 hR1d hb3 hb03 hb1 hb01 hW gI HS2 HRC HRP
 generalize sS c.cs a rep=xs at *
 go_wp2_with fail
 go_loopw [28] (fun i wr=>∃ (k:Nat) (L':CL),k<=xs.length/\i=.int .i64 (k:Int)/\jC (rC R C L L' ((xs.take k).foldl (Cl.repK a) c) w3 wr/\∀ m,L.ok m -> L'.ok m)) (fun i _=>xs.length - (intOf i).toNat)
 case atStart=>exact ⟨0,L,by omega,rfl,fA ⟨rC.refl A3c.out (xC _),fun _ h=>h⟩⟩
 case round =>
  obtain ⟨k,L',hk,rfl,HS⟩:=hrel
  have hk0:(0:Int)<=(k:Int):=by omega
  have hwr:=HS.out.1.chg.size
  by_cases hlt:k<xs.length
  ·have hk1:(k:Int)<(xs.length:Int):=by omega
   have HX:=fA (HKD.out _ (wC hlt))
   have HSU:jC ((xs.take (k+1)).foldl (Cl.repK a) c=Cl.repK a ((xs.take k).foldl (Cl.repK a) c) (xs[k]'hlt)):=fA (by rw [tB hlt,List.foldl_append];rfl)
   obtain ⟨b3,off,rfl,blt,d0,d1,d2,d3,d4,d5⟩:=zHT (HS.out.1.row HX3.out HO3.out) hlt
   generalize (xs[k]'hlt)=x at *
   obtain ⟨x1,x2,x3,x4,x5,x6⟩:=x
   obtain ⟨rfl,hx3⟩:x1=0/\(x3=5\/x3=6):=HX.out
   generalize (xs.take k).foldl (Cl.repK a) c=ck at *
   have HT:=fA (fun V (hb:Below wr.heap.size wr V)=>zEo R C L' ck x4 a V (HS.out.1.at_.below hb))
   have HC:=fA (fun V (hb:Below wr.heap.size wr V)=>sQ R C L' ck x2 x3 x4 x5 x6 V (HS.out.1.at_.below hb) (hR0 V (pA hws3 (pA hwr hb.size))) (by omega))
   have i1:=jA (HS.out.1.blk GI3.out (HN.out I (mA _))) 1
   have hIl:=eB (HS.out.1.blk GI3.out (HN.out I (mA _)))
   have HKN:=fA (fun (w5 w8:uA) (L8:CL) (hb5:Below wr.heap.size wr w5) (he:Cl.repK a ck (0,x2,x3,x4,x5,x6)=(ck.knw x3 x4 x5 x6).1) (st8:rC R C L' L8 (ck.knw x3 x4 x5 x6).1 w5 w8) (hq8:∀ m,L'.ok m -> L8.ok (m+0))=>(show rC R C L L8 ((xs.take (k+1)).foldl (Cl.repK a) c) w3 w8/\∀ m,L.ok m -> L8.ok m from ⟨by rw [HSU.out,he];exact HS.out.1.trans ((rC.refl HS.out.1.at_ hb5).trans st8),fun m h=>hq8 m (HS.out.2 m h)⟩))
   have HRK:jC (Cl.repK a ck (0,x2,x3,x4,x5,x6)=if (decide (x3=5) && ck.toldP x4 a)=true then ck else (ck.knw x3 x4 x5 x6).1):=fA rfl
   dsimp only at d0 d1 d2 d3 d4 d5
   rcases hx3 with rfl | rfl
   ·have hal:=wA wr (.cells #[.int .i64 0,x2,.int .i64 5,x4,x5,x6] 99)
    have gX:=rB wr (.cells #[.int .i64 0,x2,.int .i64 5,x4,x5,x6] 99)
    have e0:=jA gX 0
    have e1:=jA gX 1
    have e2:=jA gX 2
    have e3:=jA gX 3
    have e4:=jA gX 4
    have e5:=jA gX 5
    generalize ck.toldP x4 a=q at *
    cases q with
    | true =>
     have HE:jC (Cl.repK a ck (0,x2,5,x4,x5,x6)=ck):=fA (by rw [HRK.out];rfl)
     go_wp2_with (go_at_call 66;(with_reducible refine (HT.out _ hal).mono ?_);rintro e w5 ⟨rfl,hb5⟩;have hb05:=hal.trans (hb5.mono hal.size))
     go_roundw
     case rel=>exact ⟨k+1,L',by omega,by go_num,fA ⟨by rw [HSU.out,HE.out];exact HS.out.1.trans (rC.refl HS.out.1.at_ hb05),HS.out.2⟩⟩
     case measure=>simp [intOf];omega
    | false =>
     have HE:jC (Cl.repK a ck (0,x2,5,x4,x5,x6)=(ck.knw 5 x4 x5 x6).1):=fA (by rw [HRK.out];rfl)
     go_wp2_with (first
      | (go_at_call 66;(with_reducible refine (HT.out _ hal).mono ?_);rintro e w5 ⟨rfl,hb5⟩;have hb05:=hal.trans (hb5.mono hal.size);have g5:=kA hb5 gX;have s0:=jA g5 0;have s1:=jA g5 1;have s2:=jA g5 2;have s3:=jA g5 3;have s4:=jA g5 4;have s5:=jA g5 5;clear g5 gX e0 e1 e2 e3 e4 e5)
      | (go_at_call 48;(with_reducible refine (HC.out _ hb05).mono ?_);rintro e w8 ⟨rfl,L8,st8,hq8⟩))
     go_roundw
     case rel=>exact ⟨k+1,L8,by omega,by go_num,fA (HKN.out _ _ _ hb05 HE.out st8 hq8)⟩
     case measure=>simp [intOf];omega
   ·have hal:=wA wr (.cells #[.int .i64 0,x2,.int .i64 6,x4,x5,x6] 99)
    have gX:=rB wr (.cells #[.int .i64 0,x2,.int .i64 6,x4,x5,x6] 99)
    have e0:=jA gX 0
    have e1:=jA gX 1
    have e2:=jA gX 2
    have e3:=jA gX 3
    have e4:=jA gX 4
    have e5:=jA gX 5
    clear gX
    have HE:jC (Cl.repK a ck (0,x2,6,x4,x5,x6)=(ck.knw 6 x4 x5 x6).1):=fA (by rw [HRK.out];rfl)
    go_wp2_with (go_at_call 48;(with_reducible refine (HC.out _ hal).mono ?_);rintro e w8 ⟨rfl,L8,st8,hq8⟩)
    go_roundw
    case rel=>exact ⟨k+1,L8,by omega,by go_num,fA (HKN.out _ _ _ hal HE.out st8 hq8)⟩
    case measure=>simp [intOf];omega
  ·have hk1:¬ (k:Int)<(xs.length:Int):=by omega
   have hke:k=xs.length:=by omega
   have HZ1:jC (c.repA a rep=(xs.take k).foldl (Cl.repK a) c):=fA (by rw [HZA.out,hke,sJ])
   obtain ⟨n1,s1,hA⟩:=zMK c a rep
   obtain ⟨cA,hcA⟩:∃ cA,cA=(xs.take k).foldl (Cl.repK a) c:=⟨_,rfl⟩
   rw [<- hcA] at HZ1 HS
   have he:cA={ c with ns:=n1,cs:=s1 }:=HZ1.out.symm.trans hA
   have htA:0<=cA.t/\cA.t<=1000000000:=by rw [he];exact ht
   have hrA:1<=cA.r.2.2.2.2.1/\cA.r.2.2.2.2.1<=1048576:=by rw [he];exact hrd
   have hnA:cA.net.length<=2000000:=by rw [he];exact hn
   have HZ2:jC (c.report a rep={ cA with net:=cA.net ++ cA.repN a (zBo cA.cs rep) rep }):=fA (by unfold Cl.report;rw [HZ1.out];rfl)
   have hw1:IntKind.i64.wrap (cA.t+cA.r.2.2.2.2.1)=cA.t+cA.r.2.2.2.2.1:=oH (by omega) (by omega)
   have hw2:wrap64 (cA.t+cA.r.2.2.2.2.1)=cA.t+cA.r.2.2.2.2.1:=zBI (by omega) (by omega)
   have HA:=fA HS.out.1.at_
   have HRR:=fA (HS.out.1.row HR3.out HO1'.out)
   have HSL:=fA (zMX L'.cA A1 L'.cc c1 cA.cs rep wr HA.out.rc.in_ HRR.out)
   have c1':=jA HA.out.blk 1
   have GIr:=fA (HS.out.1.blk GI3.out (HN.out I (mA _)))
   have HSA:=fA (HST3.out.trans HS.out.1)
   have HOKA:=fA HS.out.2
   have hsr:w.heap.size<=wr.heap.size:=HSA.out.chg.size
   have HNA:jC (∀ x,I<=x -> x<wr.heap.size\/wr.heap.size<=x):=fA fun x _=>Nat.lt_or_ge _ _
   have HIL:=fA (eB GIr.out)
   have HNI:jC (¬ L'.own C I):=fA fun q=>(HS.out.1.fr I q).elim (HN.out I (mA _)) (fun p=>by have:=eB GI3.out;omega)
   have HN1:jC (∀ x ∈ zB A1,¬ L'.own C x):=fA fun x hx q=>(HS.out.1.fr x q).elim (HO1'.out x hx) (fun p=>HB1.out x hx p)
   generalize hst:zBo cA.cs rep=st at *
   have HSE:=fA hst
   clear hst
   clear hA hcA he hn ht hrd hru hke HS HKD HZA HX3 hxm
   go_wp2_with (go_at_call 67;(with_reducible refine HSL.out.mono ?_);rintro e w6 ⟨A6,c6,rfl,own6,hb6⟩)
   have hs6:=hb6.size
   have HST:=fA (yB.of_own own6 (pA (zMW cA.cs rep st HSE.out) (by omega)))
   have HN6:jC (∀ x ∈ zB A6,¬ L'.own C x):=fA fun x hx q=>by have:=(qC own6 x hx).1;have:=HA.out.own_lt q;omega
   have HA6:=fA (HA.out.below hb6)
   have HR6:=fA (HRR.out.below hb6)
   have GI6:=fA (kA hb6 GIr.out)
   have HNW:=fA (fun x (hx:wr.heap.size<=x) (q:L'.own C x)=>(by have:=HA.out.own_lt q;omega:False))
   clear own6 hk1 hk0 hk
   go_loopw [57] (fun i wv=>∃ (k:Nat) (L2:CL),k<=rep.length/\i=.int .i64 (k:Int)/\jC (rC R C L' L2 { cA with net:=cA.net ++ cA.repN a st (rep.take k) } w6 wv/\∀ m,L'.ok m -> L2.ok m)) (fun i _=>rep.length - (intOf i).toNat)
   case atStart=>exact ⟨0,L',by omega,rfl,fA ⟨by rw [show cA.repN a st (rep.take 0)=[] from rfl,List.append_nil];exact rC.refl HA6.out (xC _),fun _ h=>h⟩⟩
   case round =>
    obtain ⟨k,L2,hk,rfl,HS⟩:=hrel
    have hk0:(0:Int)<=(k:Int):=by omega
    by_cases hlt:k<rep.length
    ·have hk1:(k:Int)<(rep.length:Int):=by omega
     have hlN:(cA.net ++ cA.repN a st (rep.take k)).length<=2000100:=by
      have:=zIM cA a st (rep.take k)
      rw [kB]
      rw [sB] at this
      omega
     have htk:rep.take (k+1)=rep.take k ++ [rep[k]'hlt]:=tB hlt
     have HSY:jC (ctn st (rep[k]'hlt).1=true -> cA.net ++ cA.repN a st (rep.take (k+1))=(cA.net ++ cA.repN a st (rep.take k)) ++ [cA.repO a (rep[k]'hlt)]):=fA fun h=>by rw [htk,zPk _ _ _ _ _ h,List.append_assoc]
     have HSN:jC (ctn st (rep[k]'hlt).1=false -> cA.net ++ cA.repN a st (rep.take (k+1))=cA.net ++ cA.repN a st (rep.take k)):=fA fun h=>by rw [htk,zQJ _ _ _ _ _ h]
     obtain ⟨b5,off,rfl,blt,d0,d1,d2,d3,d4⟩:=rR (HS.out.1.row HR6.out HN1.out) hlt
     have HSR:=fA (HS.out.1.row HST.out HN6.out)
     generalize (rep[k]'hlt)=x at *
     obtain ⟨x1,x2,x3,x4,x5⟩:=x
     dsimp only at d0 d1 d2 d3 d4
     generalize hN:cA.net ++ cA.repN a st (rep.take k)=N at *
     have hal:=wA wr (.cells #[x1,x2,.int .u32 x3,.bool x4,.bool x5] 124)
     have gX:=rB wr (.cells #[x1,x2,.int .u32 x3,.bool x4,.bool x5] 124)
     have e0:=jA gX 0
     have HCT:=fA (fun V (hb:Below wr.heap.size wr V)=>pQ A6 c6 st x1 V (HSR.out.below hb))
     have HLY:jC (∀ (w8:uA) L8,ctn st x1=true -> rC R C L2 L8 { cA with net:=N ++ [cA.repO a (x1,x2,x3,x4,x5)] } wr w8 -> (∀ m,L2.ok m -> L8.ok m) -> rC R C L' L8 { cA with net:=cA.net ++ cA.repN a st (rep.take (k+1)) } w6 w8/\∀ m,L'.ok m -> L8.ok m):=fA fun w8 L8 h st8 ho=>⟨by rw [HSY.out h];exact HS.out.1.trans st8,fun m hm=>ho m (HS.out.2 m hm)⟩
     have HLN:jC (∀ (w8:uA),ctn st x1=false -> Below wr.heap.size wr w8 -> rC R C L' L2 { cA with net:=cA.net ++ cA.repN a st (rep.take (k+1)) } w6 w8/\∀ m,L'.ok m -> L2.ok m):=fA fun w8 h hb=>⟨by rw [HSN.out h];exact HS.out.1.trans (rC.refl HS.out.1.at_ hb),HS.out.2⟩
     clear hN htk HSY HSN HSR
     cases hq:ctn st x1 with
     | false =>
      rw [hq] at HCT
      have HL:=fA (HLN.out _ hq hal)
      clear hq
      go_wp2_with (go_at_call 68;(with_reducible refine (HCT.out _ hal).mono ?_);rintro e w7 ⟨rfl,rfl⟩)
      go_roundw
      case rel=>exact ⟨k+1,L2,by omega,by go_num,HL⟩
      case measure=>simp [intOf];omega
     | true =>
      rw [hq] at HCT
      have HQ:=fA hq
      clear hq
      go_wp2_with (go_at_call 68;(with_reducible refine (HCT.out _ hal).mono ?_);rintro e w7 ⟨rfl,rfl⟩)
      have HAX:=fA (HS.out.1.at_.below hal)
      have gI13:=kA hal (HS.out.1.blk GI6.out HNI.out)
      have hwb:=HS.out.1.chg.size
      have HLY2:=fA (fun w8 L8 (st8:rC R C L2 L8 { cA with net:=N ++ [cA.repO a (x1,x2,x3,x4,x5)] } (wr.alloc (.cells #[x1,x2,.int .u32 x3,.bool x4,.bool x5] 124)) w8) ho=>HLY.out w8 L8 HQ.out ((rC.refl HS.out.1.at_ hal).trans st8) ho)
      obtain ⟨X,hX⟩:∃ X,X=wr.heap.size:=⟨_,rfl⟩
      rw [<- hX] at gX e0
      have HX:=fA hX
      rw [<- HX.out]
      clear hal hX HS HLY HLN HCT d0 d1 d2 d3 d4 blt
      generalize wr.alloc (.cells #[x1,x2,.int .u32 x3,.bool x4,.bool x5] 124)=WX at *
      have HS13:jC (∀ V,Below WX.heap.size WX V -> (fun V:uA=>V.cell? ⟨C,14,none⟩=yA (.slice L2.eA N.length L2.ec)/\V.cell? ⟨X,0,none⟩=yA (.int .i64 x1)/\V.cell? ⟨X,1,none⟩=yA (.int .i64 x2)/\V.cell? ⟨X,2,none⟩=yA (.int .u32 x3)/\V.cell? ⟨I,1,none⟩=yA (.int .i64 a)/\V.cell? ⟨C,12,none⟩=yA (.int .i64 cA.t)/\V.cell? ⟨C,10,none⟩=yA (.int .i64 cA.r.2.2.2.2.1)) V):=fA fun V hb=>⟨jA (kA hb HAX.out.blk) 14,jA (kA hb gX) 0,jA (kA hb gX) 1,jA (kA hb gX) 2,jA (kA hb gI13) 1,jA (kA hb HAX.out.blk) 12,jA (kA hb HAX.out.blk) 10⟩
      have HOW:=fA HAX.out.ne
      have GCX:=fA (kA (wA WX (uL 1 x1 x2 x3 a a (cA.t+cA.r.2.2.2.2.1))).drew HAX.out.blk)
      have HNO:=fA (show C ∉ zB L2.eA from fun q=>(HAX.out.ce _ q).1 rfl)
      have HFI:=fA (fun (A5:Option Addr) (c5:Nat) (w5:uA) (own5:w5.ownsRow 0 105 7 (.slice A5 (N.length+1) c5) (N.length+1) (flat qL N ++ qL (1,x1,x2,x3,a,a,cA.t+cA.r.2.2.2.2.1))) (C5:fD (zB L2.eA) (WX.alloc (uL 1 x1 x2 x3 a a (cA.t+cA.r.2.2.2.2.1))).drew w5) (at5:∀ x ∈ zB A5,x ∈ zB L2.eA\/(WX.alloc (uL 1 x1 x2 x3 a a (cA.t+cA.r.2.2.2.2.1))).drew.heap.size<=x)=>HLY2.out _ _ ((rC.refl HAX.out (wA WX (uL 1 x1 x2 x3 a a (cA.t+cA.r.2.2.2.2.1))).drew).trans (iG.netApp (HAX.out.below (wA WX (uL 1 x1 x2 x3 a a (cA.t+cA.r.2.2.2.2.1))).drew) (ys:=[cA.repO a (x1,x2,x3,x4,x5)]) (by rw [show flat qL [cA.repO a (x1,x2,x3,x4,x5)]=qL (1,x1,x2,x3,a,a,cA.t+cA.r.2.2.2.2.1) from by simp [flat,Cl.repO]];exact own5) (by simp) C5 at5)) (fun _ h=>h))
      clear gX gI13 e0 HLY2
      refine iC (S:=fun V:uA=>V.cell? ⟨C,14,none⟩=yA (.slice L2.eA N.length L2.ec)/\V.cell? ⟨X,0,none⟩=yA (.int .i64 x1)/\V.cell? ⟨X,1,none⟩=yA (.int .i64 x2)/\V.cell? ⟨X,2,none⟩=yA (.int .u32 x3)/\V.cell? ⟨I,1,none⟩=yA (.int .i64 a)/\V.cell? ⟨C,12,none⟩=yA (.int .i64 cA.t)/\V.cell? ⟨C,10,none⟩=yA (.int .i64 cA.r.2.2.2.2.1)) [27,30] (HS13.out _ (cC _ _).drew) fun hH => ?_
      refine gU [0,1,2,3,104,5,106,7,108,9,110,11,112,13,114,15,16,17,118,19,20,21,22,123,24,25] ?_
      refine oU 26 fun K hK => ?_
      go_simp
      refine hK.out _ _ (HS13.out _ ((wA WX (uL 1 x1 x2 x3 a a (cA.t+cA.r.2.2.2.2.1))).drew)) fun hH => ?_
      clear hK K
      refine tU 27 fun K hK => ?_
      refine tG (.tmp 69) (.tmp 91) rfl cO 0 (.slice L2.eA N.length L2.ec) N.length (flat qL N) (by rfl) (sI (jB HOW.out (wA WX (uL 1 x1 x2 x3 a a (cA.t+cA.r.2.2.2.2.1))))) (yA ⟨WX.heap.size,0,none⟩) 1 1 (qL (1,x1,x2,x3,a,a,cA.t+cA.r.2.2.2.2.1)) (by rfl) rfl (dC.drew (dC.new WX _ _)) (tS _) (by unfold maxLen;omega) (by omega) (vC _) (fun h=>by cases h) fun A5 c5 w5 own5 hg5 hat5 => ?_
      have C5:=tE hg5
      have at5:=wF hat5
      have gC5:=C5.keep GCX.out HNO.out
      have g14:=jA gC5 14
      have f14:=qB gC5 14
      have HL:=fA (HFI.out A5 c5 w5 own5 C5 at5)
      clear own5 hg5 hat5 C5 at5 gC5
      refine hK.out _ _ ?_
      clear hK K
      refine gU [28,29] ?_
      refine tU 30 fun K hK => ?_
      go_simp
      refine hK.out _ _ ?_
      clear hK K
      refine gU [300] ?_
      clear hH g14 f14
      go_wp2
      go_roundw
      case rel=>exact ⟨k+1,_,by omega,by go_num,HL⟩
      case measure=>simp [intOf];omega
    ·have hke:k=rep.length:=by omega
     have hk1:¬ (k:Int)<(rep.length:Int):=by omega
     have HZ3:jC (c.report a rep={ cA with net:=cA.net ++ cA.repN a st (rep.take k) }):=fA (by rw [HZ2.out,hke,sJ])
     go_wp2
     go_ret
     rw [HZ3.out]
     exact ⟨rfl,L2,HSA.out.trans ((rC.refl HA.out hb6).trans HS.out.1),fun m h=>HS.out.2 m (HOKA.out m h)⟩
def zRk:Od:=(0,0,0,0,0,0,0)
def Cl.orderD (c:Cl) (o:Od):Cl:=match c.h o.2.2.2.2.2.1 with
 | none=>c
 | some v=>if c.t<=o.2.2.2.2.2.2/\v.up=true then c.does o o.2.2.2.2.2.1 v else c
def Cl.cut (c:Cl) (j:Nat):Cl:={ c with net:=c.net.take j ++ c.net.drop (j+1) }
def Cl.order (c:Cl) (k a:Int):Cl × Int :=
 if a<0\/(c.net.length:Int)<=a then (c,5) else if k=8 then ({ c with net:=c.net ++ [c.net.getD a.toNat zRk] },0)
 else (if k=6 then (c.cut a.toNat).orderD (c.net.getD a.toNat zRk) else c.cut a.toNat,0)
theorem zAW (R:Nat -> Prop) (C:Nat) (L:CL) (c:Cl) (k a b d:Int) (w:uA) (h:iG R w C L c) (hR:∀ x,w.heap.size<=x -> R x) (ho:∀ k v,c.h k=yA v -> bH v.s) (hod:∀ o ∈ c.net,zGC o) (hn:c.net.length<1000000) (m:Nat) (hm:L.ok m) (hm2:m+1<1000000) :
  Calls prog 20 #[.pointer (yA ⟨C,0,none⟩),.agg #[k,a,b,d]] w (lL R C L 2 w (.int .i64 (c.order k a).2) (c.order k a).1):=by
 have hal:=wA w (.cells #[k,a,b,d] 32)
 have gI:=rB w (.cells #[k,a,b,d] 32)
 have HH:=fA h
 have HR:=fA hR
 have HO:=fA ho
 have HM:=fA hm
 have hW:=h.below hal
 have HST:=fA (rC.refl h hal)
 obtain ⟨I,hI⟩:∃ I,I=w.heap.size:=⟨_,rfl⟩
 rw [<- hI] at gI
 have HWs:=fA hal.size
 have HHW:=fA hW
 have HOD:=fA hod
 have hIW:I<(w.alloc (.cells #[k,a,b,d] 32)).heap.size:=eB gI
 have hnI:¬ L.own C I:=fun q=>by have:=h.own_lt q;omega
 clear h hR ho hm hod hal
 by_cases h0:a<0
 ·have HZ:jC (c.order k a=(c,5)):=fA (by unfold Cl.order;rw [if_pos (.inl h0)])
  have hd:decide (a<0)=true:=decide_eq_true h0
  have HS1:jC ((fun V:uA=>V.cell? ⟨I,1,none⟩=yA (.int .i64 a)/\V.cell? ⟨C,14,none⟩=yA (.slice L.eA c.net.length L.ec)) (w.alloc (.cells #[k,a,b,d] 32)).drew):=fA ⟨jA gI 1,jA hW.blk 14⟩
  have HI:=fA hI
  clear hW hIW hI gI
  go_enter func20,ntmps20
  go_wp2_with fail
  rw [<- HI.out]
  refine iC (S:=fun V:uA=>V.cell? ⟨I,1,none⟩=yA (.int .i64 a)/\V.cell? ⟨C,14,none⟩=yA (.slice L.eA c.net.length L.ec)) [] HS1.out fun hH => ?_
  refine gU [0,101,2,3,204,205,206,207,208,209,210,211,12,300] ?_
  clear hH
  go_wp2
  go_ret
  rw [HZ.out]
  exact ⟨rfl,L,HST.out.trans (rC.refl HHW.out (xC _).drew),fun m h=>h.mono (mF _ _)⟩
 by_cases h1:(c.net.length:Int)<=a
 ·have HZ:jC (c.order k a=(c,5)):=fA (by unfold Cl.order;rw [if_pos (.inr h1)])
  have hd:decide (a<0)=false:=decide_eq_false h0
  have HS1:jC ((fun V:uA=>V.cell? ⟨I,1,none⟩=yA (.int .i64 a)/\V.cell? ⟨C,14,none⟩=yA (.slice L.eA c.net.length L.ec)) (w.alloc (.cells #[k,a,b,d] 32)).drew):=fA ⟨jA gI 1,jA hW.blk 14⟩
  have HI:=fA hI
  clear hW hIW hI gI
  go_enter func20,ntmps20
  go_wp2_with fail
  rw [<- HI.out]
  refine iC (S:=fun V:uA=>V.cell? ⟨I,1,none⟩=yA (.int .i64 a)/\V.cell? ⟨C,14,none⟩=yA (.slice L.eA c.net.length L.ec)) [] HS1.out fun hH => ?_
  refine gU [0,101,2,3,4,105,6,7,8,109,10,11,12,300] ?_
  clear hH
  go_wp2
  go_ret
  rw [HZ.out]
  exact ⟨rfl,L,HST.out.trans (rC.refl HHW.out (xC _).drew),fun m h=>h.mono (mF _ _)⟩
 obtain ⟨j,rfl⟩:∃ j:Nat,a=(j:Int):=⟨a.toNat,by omega⟩
 have hlt:j<c.net.length:=by omega
 have hd:decide ((j:Int)<0)=false:=decide_eq_false h0
 have hd1:decide ((c.net.length:Int)<=(j:Int))=false:=decide_eq_false h1
 have hd2:(j:Int)<(c.net.length:Int):=by omega
 have hd3:(0:Int)<=(j:Int):=by omega
 have HZ:jC (c.order k (j:Int)=if k=8 then ({ c with net:=c.net ++ [c.net.getD j zRk] },0) else (if k=6 then (c.cut j).orderD (c.net.getD j zRk) else c.cut j,0)):=fA (by unfold Cl.order;rw [if_neg (by omega)];rfl)
 obtain ⟨gb,go,hA,glt,d0,d1,d2,d3,d4,d5,d6⟩:=zET (yB.of_own hW.ne (by omega)) hlt
 have HOX:=fA (HOD.out _ (wC hlt))
 have hgd:c.net.getD j zRk=c.net[j]'hlt:=by rw [List.getD_eq_getElem?_getD,List.getElem?_eq_getElem hlt];rfl
 rw [hgd] at HZ
 generalize (c.net[j]'hlt)=o at *
 obtain ⟨o1,o2,o3,o4,o5,o6,o7⟩:=o
 dsimp only at d0 d1 d2 d3 d4 d5 d6
 have c14:=jA hW.blk 14
 have HS1:jC ((fun V:uA=>V.cell? ⟨I,1,none⟩=yA (.int .i64 (j:Int))/\V.cell? ⟨C,14,none⟩=yA (.slice L.eA c.net.length L.ec)) (w.alloc (.cells #[k,(j:Int),b,d] 32)).drew):=fA ⟨jA gI 1,c14⟩
 have GI:=fA gI
 have HS3:jC (∀ V,Below (w.alloc (.cells #[k,(j:Int),b,d] 32)).heap.size (w.alloc (.cells #[k,(j:Int),b,d] 32)) V -> (fun V:uA=>V.cell? ⟨I,1,none⟩=yA (.int .i64 (j:Int))/\V.cell? ⟨C,14,none⟩=yA (.slice (yA ⟨gb,go,none⟩) c.net.length L.ec)/\V.cell? ⟨gb,go+j * 7,none⟩=yA (.int .i64 o1)/\V.cell? ⟨gb,go+j * 7+1,none⟩=yA (.int .i64 o2)/\V.cell? ⟨gb,go+j * 7+2,none⟩=yA (.int .i64 o3)/\V.cell? ⟨gb,go+j * 7+3,none⟩=yA (.int .u32 o4)/\V.cell? ⟨gb,go+j * 7+4,none⟩=yA (.int .i64 o5)/\V.cell? ⟨gb,go+j * 7+5,none⟩=yA (.int .i64 o6)/\V.cell? ⟨gb,go+j * 7+6,none⟩=yA (.int .i64 o7)) V):=fA fun V hb=>⟨jA (kA hb GI.out) 1,by have:=jA (kA hb HHW.out.blk) 14;rwa [hA] at this,(hb.cell (p:=⟨gb,_,none⟩) glt).trans d0,(hb.cell (p:=⟨gb,_,none⟩) glt).trans d1,(hb.cell (p:=⟨gb,_,none⟩) glt).trans d2,(hb.cell (p:=⟨gb,_,none⟩) glt).trans d3,(hb.cell (p:=⟨gb,_,none⟩) glt).trans d4,(hb.cell (p:=⟨gb,_,none⟩) glt).trans d5,(hb.cell (p:=⟨gb,_,none⟩) glt).trans d6⟩
 have HAE:=fA hA
 have HI:=fA hI
 have hal3:=(wA (w.alloc (.cells #[k,(j:Int),b,d] 32)) (uL o1 o2 o3 o4 o5 o6 o7)).drew.drew
 have gX:=iB (iB (rB (w.alloc (.cells #[k,(j:Int),b,d] 32)) (uL o1 o2 o3 o4 o5 o6 o7)))
 rw [show (w.alloc (.cells #[k,(j:Int),b,d] 32)).heap.size=w.heap.size+1 by simp] at gX
 have HX3:=fA hal3
 obtain ⟨X,hX⟩:∃ X,X=w.heap.size+1:=⟨_,rfl⟩
 have hXW:(w.alloc (.cells #[k,(j:Int),b,d] 32)).heap.size=X:=by rw [hX];simp
 rw [<- hX] at gX
 have HXE:=fA hX
 have hnX:¬ L.own C X:=fun q=>by have:=HHW.out.own_lt q;omega
 have HXW:=fA hXW
 have GX:=fA gX
 have HNI:=fA (kA hal3 gI)
 clear hW hIW hI gI d0 d1 d2 d3 d4 d5 d6 hA hgd c14 hX gX glt hal3 hXW
 go_enter func20,ntmps20
 go_wp2_with fail
 rw [<- HI.out]
 refine iC (S:=fun V:uA=>V.cell? ⟨I,1,none⟩=yA (.int .i64 (j:Int))/\V.cell? ⟨C,14,none⟩=yA (.slice L.eA c.net.length L.ec)) [] HS1.out fun hH => ?_
 refine gU [0,101,2,3,4,105,6,7,8,109,10,11,12,300] ?_
 clear hH
 go_wp2_with fail
 refine iC (S:=fun V:uA=>V.cell? ⟨I,1,none⟩=yA (.int .i64 (j:Int))/\V.cell? ⟨C,14,none⟩=yA (.slice (yA ⟨gb,go,none⟩) c.net.length L.ec)/\V.cell? ⟨gb,go+j * 7,none⟩=yA (.int .i64 o1)/\V.cell? ⟨gb,go+j * 7+1,none⟩=yA (.int .i64 o2)/\V.cell? ⟨gb,go+j * 7+2,none⟩=yA (.int .i64 o3)/\V.cell? ⟨gb,go+j * 7+3,none⟩=yA (.int .u32 o4)/\V.cell? ⟨gb,go+j * 7+4,none⟩=yA (.int .i64 o5)/\V.cell? ⟨gb,go+j * 7+5,none⟩=yA (.int .i64 o6)/\V.cell? ⟨gb,go+j * 7+6,none⟩=yA (.int .i64 o7)) [9] (HS3.out _ (cC _ _).drew.drew) fun hH => ?_
 refine gU [0,1,2,103,4,105,6,107] ?_
 refine oU 8 fun K hK => ?_
 go_simp
 refine hK.out _ _ (HS3.out _ (wA _ _).drew.drew) fun hH => ?_
 clear hK K
 refine tU 9 fun K hK => ?_
 go_simp
 refine hK.out _ _ ?_
 clear hK K
 refine gU [300] ?_
 clear hH
 rw [<- HXE.out]
 generalize ((w.alloc (.cells #[k,(j:Int),b,d] 32)).alloc (uL o1 o2 o3 o4 o5 o6 o7)).drew.drew=WX at *
 have i0:=jA HNI.out 0
 have HHX:=fA (HHW.out.below HX3.out)
 have HSX:=fA (HST.out.trans (rC.refl HHW.out HX3.out))
 have hwx:=HSX.out.chg.size
 have HRX:=fA (fun (V:uA) (hs:WX.heap.size<=V.heap.size) x (hx:V.heap.size<=x)=>HR.out x (pA hwx (pA hs hx)))
 by_cases hk:k=8
 ·subst hk
  have HZ8:jC (c.order 8 (j:Int)=({ c with net:=c.net ++ [(o1,o2,o3,o4,o5,o6,o7)] },0)):=fA (by rw [HZ.out,if_pos rfl])
  have HS5:jC (∀ V,Below WX.heap.size WX V -> (fun V:uA=>V.cell? ⟨C,14,none⟩=yA (.slice (yA ⟨gb,go,none⟩) c.net.length L.ec)/\V.cell? ⟨X,0,none⟩=yA (.int .i64 o1)/\V.cell? ⟨X,1,none⟩=yA (.int .i64 o2)/\V.cell? ⟨X,2,none⟩=yA (.int .i64 o3)/\V.cell? ⟨X,3,none⟩=yA (.int .u32 o4)/\V.cell? ⟨X,4,none⟩=yA (.int .i64 o5)/\V.cell? ⟨X,5,none⟩=yA (.int .i64 o6)/\V.cell? ⟨X,6,none⟩=yA (.int .i64 o7)) V):=fA fun V hb=>⟨by have:=jA (kA hb HHX.out.blk) 14;rwa [HAE.out] at this,jA (kA hb GX.out) 0,jA (kA hb GX.out) 1,jA (kA hb GX.out) 2,jA (kA hb GX.out) 3,jA (kA hb GX.out) 4,jA (kA hb GX.out) 5,jA (kA hb GX.out) 6⟩
  have HOW:=fA (by have:=HHX.out.ne;rwa [HAE.out] at this)
  have HNO:=fA (show C ∉ zB (yA (⟨gb,go,none⟩:Addr)) from fun q=>(HHX.out.ce _ (by rw [HAE.out];exact q)).1 rfl)
  have HFI:=fA (fun (A5:Option Addr) (c5:Nat) (w5:uA) (own5:w5.ownsRow 0 105 7 (.slice A5 (c.net.length+1) c5) (c.net.length+1) (flat qL c.net ++ qL (o1,o2,o3,o4,o5,o6,o7))) (C5:fD (zB (yA (⟨gb,go,none⟩:Addr))) (WX.alloc (uL o1 o2 o3 o4 o5 o6 o7)).drew w5) (at5:∀ x ∈ zB A5,x ∈ zB (yA (⟨gb,go,none⟩:Addr))\/(WX.alloc (uL o1 o2 o3 o4 o5 o6 o7)).drew.heap.size<=x)=>HSX.out.trans ((rC.refl HHX.out (wA WX (uL o1 o2 o3 o4 o5 o6 o7)).drew).trans (iG.netApp (HHX.out.below (wA WX (uL o1 o2 o3 o4 o5 o6 o7)).drew) (ys:=[(o1,o2,o3,o4,o5,o6,o7)]) (by rw [show flat qL [(o1,o2,o3,o4,o5,o6,o7)]=qL (o1,o2,o3,o4,o5,o6,o7) from by simp [flat]];exact own5) (by simp) (by rw [HAE.out];exact C5) (by rw [HAE.out];exact at5))))
  have GCX:=fA (kA (wA WX (uL o1 o2 o3 o4 o5 o6 o7)).drew HHX.out.blk)
  have hnl:=hn
  clear HS1 HS3
  go_wp2_with fail
  refine iC (S:=fun V:uA=>V.cell? ⟨C,14,none⟩=yA (.slice (yA ⟨gb,go,none⟩) c.net.length L.ec)/\V.cell? ⟨X,0,none⟩=yA (.int .i64 o1)/\V.cell? ⟨X,1,none⟩=yA (.int .i64 o2)/\V.cell? ⟨X,2,none⟩=yA (.int .i64 o3)/\V.cell? ⟨X,3,none⟩=yA (.int .u32 o4)/\V.cell? ⟨X,4,none⟩=yA (.int .i64 o5)/\V.cell? ⟨X,5,none⟩=yA (.int .i64 o6)/\V.cell? ⟨X,6,none⟩=yA (.int .i64 o7)) [7,10] (HS5.out _ (cC _ _).drew) fun hH => ?_
  refine gU [0,1,2,3,104,105] ?_
  refine oU 6 fun K hK => ?_
  go_simp
  refine hK.out _ _ (HS5.out _ ((wA WX (uL o1 o2 o3 o4 o5 o6 o7)).drew)) fun hH => ?_
  clear hK K
  refine tU 7 fun K hK => ?_
  refine tG (.tmp 35) (.tmp 37) rfl cO 0 (.slice (yA ⟨gb,go,none⟩) c.net.length L.ec) c.net.length (flat qL c.net) (by rfl) (sI (jB HOW.out (wA WX (uL o1 o2 o3 o4 o5 o6 o7)))) (yA ⟨WX.heap.size,0,none⟩) 1 1 (qL (o1,o2,o3,o4,o5,o6,o7)) (by rfl) rfl (dC.drew (dC.new WX _ _)) (tS _) (by unfold maxLen;omega) (by omega) (vC _) (fun h=>by cases h) fun A5 c5 w5 own5 hg5 hat5 => ?_
  have C5:=tE hg5
  have at5:=wF hat5
  have gC5:=C5.keep GCX.out HNO.out
  have g14:=jA gC5 14
  have f14:=qB gC5 14
  have HL:=fA (HFI.out A5 c5 w5 own5 C5 at5)
  clear own5 hg5 hat5 C5 at5 gC5
  refine hK.out _ _ ?_
  clear hK K
  refine gU [8,9] ?_
  refine tU 10 fun K hK => ?_
  go_simp
  refine hK.out _ _ ?_
  clear hK K
  refine gU [300] ?_
  clear hH g14 f14
  go_wp2
  go_ret
  rw [HZ8.out]
  exact ⟨rfl,_,HL.out,fun m h=>h.mono (mF _ _)⟩
 have hk8:(k == 8)=false:=by simpa using hk
 have HZ7:jC (c.order k (j:Int)=(if k=6 then (c.cut j).orderD (o1,o2,o3,o4,o5,o6,o7) else c.cut j,0)):=fA (by rw [HZ.out,if_neg hk])
 have HOW:=fA (by have:=HHX.out.ne;rwa [HAE.out] at this)
 have hcl:(c.net.take j ++ c.net.drop (j+1)).length=c.net.length - 1:=by simp only [kB,sB,List.length_drop];omega
 have HCL:=fA (zLh (yA ⟨gb,go,none⟩) L.ec c.net.length (flat qL c.net) WX.drew (dC.of_own (sI HOW.out)) (fun h=>by cases h) (jD zW _) (jF tS _) (by omega))
 have HDL:=fA (fun (g5 c5:Nat) (w5:uA) (own5:w5.ownsRow WX.drew.heap.size 105 7 (.slice (yA ⟨g5,0,none⟩) c.net.length c5) c.net.length (flat qL c.net))=>zNS g5 c5 c.net.length j (flat qL c.net) w5 (mQ own5 (fun x hx=>by simp [zB] at hx;omega)) (jF tS _) hlt (by omega))
 have HFD:=fA (fun (g5 c5:Nat) (w5 w6:uA) (own5:w5.ownsRow WX.drew.heap.size 105 7 (.slice (yA ⟨g5,0,none⟩) c.net.length c5) c.net.length (flat qL c.net)) (hb5:Below WX.drew.heap.size WX.drew w5) (own6:w6.ownsRow g5 105 7 (.slice (yA ⟨g5,0,none⟩) (c.net.length - 1) c5) (c.net.length - 1) ((flat qL c.net).take (j * 7) ++ (flat qL c.net).drop ((j+1) * 7))) (hc6:fD [g5] w5 w6)=>(show w6.heap[C]?=yA (zNm (.slice L.nA c.ns.length L.nc) (.slice L.cA c.cs.length L.cc) (.slice L.bA c.bs.length L.bc) (.slice L.lA c.ls.length L.lc) (.slice L.dA c.ds.length L.dc) c.r c.t L.M (.slice L.eA c.net.length L.ec))/\∃ L7,rC R C L L7 (c.cut j) WX (w6.setCell ⟨C,14,none⟩ (.slice (yA ⟨g5,0,none⟩) (c.net.length - 1) c5))/\∀ m,L.ok m -> L7.ok m from by
  have hg5:=(qC own5 g5 (by simp [zB])).1
  have hb6:Below WX.heap.size WX w6:=((cC WX.heap.size WX).drew.trans hb5).trans (hc6.to_below (fun x hx=>by rw [List.mem_singleton] at hx;subst hx;exact hg5) hb5.size)
  refine ⟨kA hb6 HHX.out.blk,_,iG.netNew HHX.out hb6 (base:=g5) (net':=c.net.take j ++ c.net.drop (j+1)) ?_ hg5 hcl.symm,fun m h=>h⟩
  rw [uD,<- mL zW,<- wM zW]
  exact own6))
 have HS7:jC (∀ V,Below WX.drew.heap.size WX.drew V -> (fun V:uA=>V.cell? ⟨C,14,none⟩=yA (.slice (yA ⟨gb,go,none⟩) c.net.length L.ec)/\V.cell? ⟨I,1,none⟩=yA (.int .i64 (j:Int))) V):=fA fun V hb=>by
  have hb':=(cC WX.heap.size WX).drew.trans hb
  exact ⟨by have:=jA (kA hb' HHX.out.blk) 14;rwa [HAE.out] at this,jA (kA hb' HNI.out) 1⟩
 have hw1:IntKind.i64.wrap ((j:Int)+1)=(j:Int)+1:=oH (by omega) (by omega)
 have hw2:wrap64 ((j:Int)+1)=(j:Int)+1:=zBI (by omega) (by omega)
 clear HS1 HS3 hcl
 go_wp2_with fail
 refine iC (S:=fun V:uA=>V.cell? ⟨C,14,none⟩=yA (.slice (yA ⟨gb,go,none⟩) c.net.length L.ec)/\V.cell? ⟨I,1,none⟩=yA (.int .i64 (j:Int))) [11,14] (HS7.out _ (cC _ _)) fun hH => ?_
 refine gU [0,1,2,3,104,6,107,8,109,10] ?_
 refine oU 5 fun K hK => ?_
 go_simp
 go_at_call 52
 (with_reducible refine HCL.out.mono ?_)
 rintro e w5 ⟨A5,c5,rfl,own5,hb5⟩
 obtain ⟨g5,rfl⟩:=zOV own5 (by omega)
 have HDE:=fA (HDL.out g5 c5 w5 own5)
 refine hK.out _ _ (HS7.out _ hb5) fun hH => ?_
 clear hK K
 refine tU 11 fun K hK => ?_
 go_simp
 go_at_call 51
 (with_reducible refine HDE.out.mono ?_)
 rintro e w6 ⟨rfl,own6,hc6⟩
 have HL:=fA (HFD.out g5 c5 w5 w6 own5 hb5 own6 hc6)
 have gC6:=HL.out.1
 have g14:=jA gC6 14
 have f14:=qB gC6 14
 clear gC6 own5 own6 hb5 hc6 HDE
 refine hK.out _ _ ?_
 clear hK K
 refine gU [12,13] ?_
 refine tU 14 fun K hK => ?_
 go_simp
 refine hK.out _ _ ?_
 clear hK K
 refine gU [300] ?_
 clear hH g14 f14
 obtain ⟨_,L7,stX,hok7⟩:=HL.out
 have GX7:=fA (stX.blk GX.out hnX)
 have GI7:=fA (stX.blk HNI.out hnI)
 have ST7:=fA (HSX.out.trans stX)
 have hs7:=stX.chg.size
 have A7:=fA stX.at_
 have HOK7:=fA hok7
 have hn7:=eB GX7.out
 clear HL stX hok7 HFD HDL HCL HS7 HOW
 generalize w6.setCell ⟨C,14,none⟩ (.slice (yA ⟨g5,0,none⟩) (c.net.length - 1) c5)=W7 at *
 have hlk:=(A7.out.below (xC W7).drew).mp.look HOX.out.2.2
 have hfn:=A7.out.hn o6
 generalize hfe:hkey (L7.hb o6)=fh at *
 have HS8:jC ((fun V:uA=>V.cell? ⟨C,13,none⟩=yA (.map (yA L7.M))/\V.cell? ⟨X,5,none⟩=yA (.int .i64 o6)/\(eE 46 (.map (yA L7.M)) (.int .i64 o6) false).run prog V=.ok fh V) W7.drew):=fA ⟨jA (iB A7.out.blk) 13,jA (iB GX7.out) 5,hlk⟩
 clear hlk
 go_wp2_with fail
 refine iC (S:=fun V:uA=>V.cell? ⟨C,13,none⟩=yA (.map (yA L7.M))/\V.cell? ⟨X,5,none⟩=yA (.int .i64 o6)/\(eE 46 (.map (yA L7.M)) (.int .i64 o6) false).run prog V=.ok fh V) [] HS8.out fun hH => ?_
 refine gU [0,1,2,103,4,105,106,7,300] ?_
 clear hH
 have A8:=fA (A7.out.below (xC W7).drew)
 have gX8:=iB GX7.out
 have gI8:=iB GI7.out
 have ST8:=fA (ST7.out.trans (rC.refl A7.out (xC W7).drew))
 have hs8:WX.heap.size<=W7.drew.heap.size:=hs7
 clear HS8
 generalize W7.drew=W8 at *
 have c12:=jA A8.out.blk 12
 have x6:=jA gX8 6
 have k0:=jA gI8 0
 have HE:jC (∀ V,c.order k (j:Int)=(c.cut j,0) -> Below W8.heap.size W8 V -> lL R C L 2 w (.int .i64 (c.order k (j:Int)).2) (c.order k (j:Int)).1 (.returned (.int .i64 0)) V):=fA fun V h hb=>by rw [h];exact ⟨rfl,L7,ST8.out.trans (rC.refl A8.out hb),fun m h=>(HOK7.out m h).mono (mF _ _)⟩
 by_cases hk6:k=6
 case neg =>
  have hb6:(k == 6)=false:=by simpa using hk6
  have HZ6:jC (c.order k (j:Int)=(c.cut j,0)):=fA (by rw [HZ7.out,if_neg hk6])
  go_wp2_with fail
  refine iC (S:=fun V:uA=>V.cell? ⟨I,0,none⟩=yA (.int .i64 k)/\V.cell? ⟨C,12,none⟩=yA (.int .i64 c.t)/\V.cell? ⟨X,6,none⟩=yA (.int .i64 o7)) [] ⟨k0,c12,x6⟩ fun hH => ?_
  refine gU [0,101,2,3,204,205,206,207,208,209,210,11,12,213,214,15,16,217,218,219,220,21,300] ?_
  clear hH
  go_wp2
  go_ret
  exact HE.out _ HZ6.out (xC _).drew
 case pos =>
 subst hk6
 by_cases ht:c.t<=o7
 case neg =>
  have hbt:decide (c.t<=o7)=false:=decide_eq_false ht
  have HZ6:jC (c.order 6 (j:Int)=(c.cut j,0)):=fA (by
   rw [HZ7.out,if_pos rfl]
   unfold Cl.orderD
   split
   ·rfl
   ·rw [if_neg (fun q=>ht q.1)])
  go_wp2_with fail
  refine iC (S:=fun V:uA=>V.cell? ⟨I,0,none⟩=yA (.int .i64 6)/\V.cell? ⟨C,12,none⟩=yA (.int .i64 c.t)/\V.cell? ⟨X,6,none⟩=yA (.int .i64 o7)) [] ⟨k0,c12,x6⟩ fun hH => ?_
  refine gU [0,101,2,3,4,5,6,107,8,109,10,11,12,213,214,15,16,217,218,219,220,21,300] ?_
  clear hH
  go_wp2
  go_ret
  exact HE.out _ HZ6.out (xC _).drew
 case pos =>
 have hbt:decide (c.t<=o7)=true:=decide_eq_true ht
 cases hh:L7.hb o6 with
 | none =>
  have HZ6:jC (c.order 6 (j:Int)=(c.cut j,0)):=fA (by
   rw [HZ7.out,if_pos rfl]
   unfold Cl.orderD
   rw [hfn.1 hh])
  obtain rfl:fh=.pointer none:=by rw [<- hfe,hh];rfl
  clear hfe hfn hh
  go_wp2_with fail
  refine iC (S:=fun V:uA=>V.cell? ⟨I,0,none⟩=yA (.int .i64 6)/\V.cell? ⟨C,12,none⟩=yA (.int .i64 c.t)/\V.cell? ⟨X,6,none⟩=yA (.int .i64 o7)) [] ⟨k0,c12,x6⟩ fun hH => ?_
  refine gU [0,101,2,3,4,5,6,107,8,109,10,11,12,13,14,15,16,217,218,219,220,21,300] ?_
  clear hH
  go_wp2
  go_ret
  exact HE.out _ HZ6.out (xC _).drew
 | some y =>
  obtain ⟨H,s,S⟩:=y
  cases hv:(c.cut j).h o6 with
  | none=>rw [hfn.2 hv] at hh;cases hh
  | some v =>
   obtain rfl:fh=.pointer (yA ⟨H,0,none⟩):=by rw [<- hfe,hh];rfl
   have e1:=jA (A8.out.ho o6 H s S v hh hv).1 1
   have HZ5:jC (c.order 6 (j:Int)=(if v.up=true then (c.cut j).does (o1,o2,o3,o4,o5,o6,o7) o6 v else c.cut j,0)):=fA (by
    rw [HZ7.out,if_pos rfl]
    unfold Cl.orderD
    rw [hv]
    dsimp only
    by_cases hu:v.up=true
    ·rw [if_pos ⟨ht,hu⟩,if_pos hu]
    ·rw [if_neg (fun q=>hu q.2),if_neg hu])
   have HDO:=fA (fun V (hb:Below W8.heap.size W8 V)=>zJz R C L7 (c.cut j) o1 o2 o3 o4 o5 o6 o7 o6 H s S v V (A8.out.below hb) hh hv HO.out (HRX.out V (pA hs8 hb.size)) HOX.out.1 HOX.out.2.1 m (HOK7.out m HM.out) hm2)
   clear hfe hfn hh hv
   cases hu:v.up with
   | false =>
    rw [hu] at e1
    have HZ6:jC (c.order 6 (j:Int)=(c.cut j,0)):=fA (by rw [HZ5.out,hu];rfl)
    clear hu
    go_wp2_with fail
    refine iC (S:=fun V:uA=>V.cell? ⟨I,0,none⟩=yA (.int .i64 6)/\V.cell? ⟨C,12,none⟩=yA (.int .i64 c.t)/\V.cell? ⟨X,6,none⟩=yA (.int .i64 o7)/\V.cell? ⟨H,1,none⟩=yA (.bool false)) [] ⟨k0,c12,x6,e1⟩ fun hH => ?_
    refine gU [0,101,2,3,4,5,6,107,8,109,10,11,12,13,14,15,16,17,18,19,120,21,300] ?_
    clear hH
    go_wp2
    go_ret
    exact HE.out _ HZ6.out (xC _).drew
   | true =>
    rw [hu] at e1
    have HZ6:jC (c.order 6 (j:Int)=((c.cut j).does (o1,o2,o3,o4,o5,o6,o7) o6 v,0)):=fA (by rw [HZ5.out,hu];rfl)
    clear hu
    go_wp2_with fail
    refine iC (S:=fun V:uA=>V.cell? ⟨I,0,none⟩=yA (.int .i64 6)/\V.cell? ⟨C,12,none⟩=yA (.int .i64 c.t)/\V.cell? ⟨X,6,none⟩=yA (.int .i64 o7)/\V.cell? ⟨H,1,none⟩=yA (.bool true)) [] ⟨k0,c12,x6,e1⟩ fun hH => ?_
    refine gU [0,101,2,3,4,5,6,107,8,109,10,11,12,13,14,15,16,17,18,19,120,21,300] ?_
    clear hH
    have x0:=jA gX8 0
    have x1:=jA gX8 1
    have x2:=jA gX8 2
    have x3:=jA gX8 3
    have x4:=jA gX8 4
    have x5:=jA gX8 5
    go_wp2_with (go_at_call 53;refine (HDO.out _ (xC _).drew).mono ?_;rintro e w9 ⟨rfl,L9,st9,hq9⟩)
    go_ret
    rw [HZ6.out]
    exact ⟨rfl,L9,ST8.out.trans ((rC.refl A8.out (xC _).drew).trans st9),fun m h=>hq9 m (HOK7.out m h)⟩
end Go.Proofs.YtogbpifcmhafkaaGreat
