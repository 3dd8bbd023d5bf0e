/-
 Part PZN of the proof.
-/
import Derived.Test.YtogbpifcmhafkaaGreatPZH
import Derived.Test.YtogbpifcmhafkaaGreatPZL
import Derived.Test.YtogbpifcmhafkaaGreatPU
import Derived.Test.YtogbpifcmhafkaaGreatPZO
open Bool renaming and_eq_true->kC
open Go renaming World->uA
open Go.Lib renaming hid->fA
open Go.RowKit renaming Hid->jC
open List renaming foldl_append->iE,foldl_cons->fL,foldl_nil->pV,getD_eq_getElem?_getD->pB,getElem?_eq_getElem->rA,getElem_mem->wC,length_append->kB,length_cons->qD,length_map->mC,length_singleton->xH,mem_append->xD,mem_cons_of_mem->tI,mem_filter->vI,mem_map->jJ,mem_singleton->xB,take_succ_eq_append_getElem->tB
open Nat renaming le_refl->mA,le_succ->uE,le_trans->pA
open Option renaming some->yA
namespace Go.Proofs.YtogbpifcmhafkaaGreat
open Go.RowKit Tryz
open Go.Lib(hid)
set_option linter.unusedVariables false
set_option linter.unusedSimpArgs false
set_option maxRecDepth 100000
set_option maxHeartbeats 16000000
def zAR (c:uS):Od:=zDN c.se c.ns c.al c.r.2.2.2.2.2
def balF (c:uS) (p:zAb):zAb:=if (decide (0<(zAR c).2.1) && (rF c.cs (zAR c).2.1).2)=true then (copyS c.r c.t p (rF c.cs (zAR c).2.1).1.1 (rF c.cs (zAR c).2.1).1.2.1 (rF c.cs (zAR c).2.1).1.2.2.1 (zAR c).2.2.2.2.1 (zAR c).2.2.2.2.2.1).1 else p
theorem zGJ (Q:Nat -> Prop) (base D:Nat) (c:uS) (m:uQ) (w:uA) (h:fW Q base w D c m) (ho:zPT c) (hl:m.ls.length<=100) (hos:m.os.length<=100000):Calls prog 109 #[(D,0)] w fun e w'=>∃ m',e=.returned (.tuple #[])/\m'.p=balF c m.p/\sG Q base D c m m' w w':=by
 have c14:=jA h.blk 14
 have c3:=jA h.blk 3
 have c13:=jA h.blk 13
 have c11:=jA h.blk 11
 have HMV:=fA (fun W (hb:Below w.heap.size w W)=>zOL c.sA c.sc c.se c.nA c.nc c.ns c.vA c.vc c.al c.r.2.2.2.2.2 W (h.se.in_.below hb) (h.ns.1.below hb) (h.al.1.below hb) ho.hs)
 have HBF:jC (balF c m.p=if (decide (0<(zAR c).2.1) && (rF c.cs (zAR c).2.1).2)=true then (copyS c.r c.t m.p (rF c.cs (zAR c).2.1).1.1 (rF c.cs (zAR c).2.1).1.2.1 (rF c.cs (zAR c).2.1).1.2.2.1 (zAR c).2.2.2.2.1 (zAR c).2.2.2.2.2.1).1 else m.p):=fA rfl
 change jC (∀ W,Below w.heap.size w W -> Calls _ _ _ W fun e w'=>e=.returned (.tuple #[.agg (qL (zAR c)).toArray,.bool (decide (0<(zAR c).2.1))])/\Below W.heap.size W w') at HMV
 generalize zAR c=o at *
 obtain ⟨o1,o2,o3,o4,o5,o6,o7⟩:=o
 have HF:=fA (fun W (hb:Below w.heap.size w W)=>mS c.cA c.cc c.cs o2 W (h.cs.in_.below hb))
 simp only at HBF HMV
 generalize rF c.cs o2=fc at *
 obtain ⟨⟨r1,r2,r3,r4⟩,rb⟩:=fc
 have HMV:jC (∀ W,Below w.heap.size w W -> Calls prog 185 #[.slice c.sA c.se.length c.sc,.slice c.nA c.ns.length c.nc,.slice c.vA c.al.length c.vc,c.r.2.2.2.2.2] W fun e w'=>e=.returned (.tuple #[.agg #[o1,o2,o3,.int .u32 o4,o5,o6,o7],.bool (decide (0<o2))])/\Below W.heap.size W w'):=HMV
 have HH:=fA h
 have HO:=fA ho
 obtain ⟨ob,hob⟩:∃ ob,ob=decide (0<o2):=⟨_,rfl⟩
 simp only [<- hob] at HMV HBF
 clear h ho hob
 go_enter func109,ntmps109
 go_wp2
 have HSS:jC (∀ V,Below w.heap.size w V -> (fun V:uA=>V.cell? ⟨D,14,none⟩=yA (.slice c.sA c.se.length c.sc)/\V.cell? ⟨D,3,none⟩=yA (.slice c.nA c.ns.length c.nc)/\V.cell? ⟨D,13,none⟩=yA (.slice c.vA c.al.length c.vc)/\V.cell? ⟨D,11,none⟩=yA (.int .i64 c.r.2.2.2.2.2)) V):=fA fun V hb=>⟨jA (kA hb HH.out.blk) 14,jA (kA hb HH.out.blk) 3,jA (kA hb HH.out.blk) 13,jA (kA hb HH.out.blk) 11⟩
 go_cut [2,3] (fun p q wx=>∃ X,p=.pointer (yA ⟨X,0,none⟩)/\q=.bool ob/\wx.heap[X]?=yA (uL o1 o2 o3 o4 o5 o6 o7)/\w.heap.size<=X/\Below w.heap.size w wx)
 case first =>
  have b0:Below w.heap.size w w.drew:=⟨rfl,rfl,rfl,mA _,fun _ _=>rfl⟩
  have bA:Below w.heap.size w (w.alloc (uL 0 0 0 0 0 0 0)).drew:=(wA w (uL 0 0 0 0 0 0 0)).drew
  have gA:=iB (rB w (uL 0 0 0 0 0 0 0))
  refine iC (S:=fun V:uA=>V.cell? ⟨D,14,none⟩=yA (.slice c.sA c.se.length c.sc)/\V.cell? ⟨D,3,none⟩=yA (.slice c.nA c.ns.length c.nc)/\V.cell? ⟨D,13,none⟩=yA (.slice c.vA c.al.length c.vc)/\V.cell? ⟨D,11,none⟩=yA (.int .i64 c.r.2.2.2.2.2)) [23,24] ⟨c14,c3,c13,c11⟩ fun hH => ?_
  refine gU [0,1,2,103,4,5,6,7,108,9,10,11,112,13,14,15,16,117] ?_
  refine bU 18 22 (fun K hK => ?_) (fun K hK => ?_)
  ·go_simp
   go_at_call 185
   refine (HMV.out _ b0).mono ?_
   rintro e w1 ⟨rfl,hb1'⟩
   have hbX:=b0.trans (hb1'.mono b0.size)
   refine hK.out _ _ (HSS.out _ hbX) fun hH => ?_
   clear hK K
   refine gU [19,20,21] ?_
   refine oU 22 fun K hK => ?_
   go_simp
   refine hK.out _ _ (HSS.out _ (hbX.trans ((wA w1 (uL 0 0 0 0 0 0 0)).mono hbX.size))) fun hH => ?_
   clear hK K
   refine tU 23 fun K hK => ?_
   have gX:=rB w1 (uL 0 0 0 0 0 0 0)
   have y0:=jA gX 0
   have y1:=jA gX 1
   have y2:=jA gX 2
   have y3:=jA gX 3
   have y4:=jA gX 4
   have y5:=jA gX 5
   have y6:=jA gX 6
   have f0:=qB gX 0
   have f1:=qB gX 1
   have f2:=qB gX 2
   have f3:=qB gX 3
   have f4:=qB gX 4
   have f5:=qB gX 5
   have f6:=qB gX 6
   go_simp
   refine hK.out _ _ ?_
   clear hK K
   refine tU 24 fun K hK => ?_
   go_simp
   refine hK.out _ _ ?_
   clear hK K
   refine gU [300] ?_
   have hXl:w.heap.size<=w1.heap.size:=hbX.size
   have HRL:=fA (show (w1.alloc (uL o1 o2 o3 o4 o5 o6 o7)).heap[w1.heap.size]?=yA (uL o1 o2 o3 o4 o5 o6 o7)/\w.heap.size<=w1.heap.size/\Below w.heap.size w (w1.alloc (uL o1 o2 o3 o4 o5 o6 o7)) from ⟨rB _ _,hXl,hbX.trans ((wA w1 _).mono hbX.size)⟩)
   clear gX hXl y0 y1 y2 y3 y4 y5 y6 f0 f1 f2 f3 f4 f5 f6 hH
   generalize (w1.alloc (uL o1 o2 o3 o4 o5 o6 o7))=WF at *
   go_wp2_with fail
   go_meet
   exact ⟨w1.heap.size,rfl,rfl,HRL.out⟩
  ·go_simp
   refine hK.out _ _ (HSS.out _ bA) fun hH => ?_
   clear hK K
   refine oU 18 fun K hK => ?_
   go_simp
   go_at_call 185
   refine (HMV.out _ bA).mono ?_
   rintro e w1 ⟨rfl,hb1'⟩
   have hbX:=bA.trans (hb1'.mono bA.size)
   have gX:=kA hb1' gA
   have y0:=jA gX 0
   have y1:=jA gX 1
   have y2:=jA gX 2
   have y3:=jA gX 3
   have y4:=jA gX 4
   have y5:=jA gX 5
   have y6:=jA gX 6
   have f0:=qB gX 0
   have f1:=qB gX 1
   have f2:=qB gX 2
   have f3:=qB gX 3
   have f4:=qB gX 4
   have f5:=qB gX 5
   have f6:=qB gX 6
   refine hK.out _ _ (HSS.out _ hbX) fun hH => ?_
   clear hK K
   refine gU [19,20,21] ?_
   refine tU 23 fun K hK => ?_
   go_simp
   refine hK.out _ _ ?_
   clear hK K
   refine tU 24 fun K hK => ?_
   go_simp
   refine hK.out _ _ ?_
   clear hK K
   refine gU [300] ?_
   have hXl:w.heap.size<=w.heap.size:=mA _
   have HRL:=fA (show (((((((w1.setCell ⟨w.heap.size,0,none⟩ (.int .i64 o1)).setCell ⟨w.heap.size,1,none⟩ (.int .i64 o2)).setCell ⟨w.heap.size,2,none⟩ (.int .i64 o3)).setCell ⟨w.heap.size,3,none⟩ (.int .u32 o4)).setCell ⟨w.heap.size,4,none⟩ (.int .i64 o5)).setCell ⟨w.heap.size,5,none⟩ (.int .i64 o6)).setCell ⟨w.heap.size,6,none⟩ (.int .i64 o7)).heap[w.heap.size]?=yA (uL o1 o2 o3 o4 o5 o6 o7)/\w.heap.size<=w.heap.size/\Below w.heap.size w (((((((w1.setCell ⟨w.heap.size,0,none⟩ (.int .i64 o1)).setCell ⟨w.heap.size,1,none⟩ (.int .i64 o2)).setCell ⟨w.heap.size,2,none⟩ (.int .i64 o3)).setCell ⟨w.heap.size,3,none⟩ (.int .u32 o4)).setCell ⟨w.heap.size,4,none⟩ (.int .i64 o5)).setCell ⟨w.heap.size,5,none⟩ (.int .i64 o6)).setCell ⟨w.heap.size,6,none⟩ (.int .i64 o7)) from ⟨zDh gX (.int .i64 o1) (.int .i64 o2) (.int .i64 o3) (.int .u32 o4) (.int .i64 o5) (.int .i64 o6) (.int .i64 o7),hXl,(((((((hbX.setCell (p:=⟨w.heap.size,0,none⟩) hXl _).setCell (p:=⟨w.heap.size,1,none⟩) hXl _).setCell (p:=⟨w.heap.size,2,none⟩) hXl _).setCell (p:=⟨w.heap.size,3,none⟩) hXl _).setCell (p:=⟨w.heap.size,4,none⟩) hXl _).setCell (p:=⟨w.heap.size,5,none⟩) hXl _).setCell (p:=⟨w.heap.size,6,none⟩) hXl _)⟩)
   clear gX hXl y0 y1 y2 y3 y4 y5 y6 f0 f1 f2 f3 f4 f5 f6 hH
   generalize (((((((w1.setCell ⟨w.heap.size,0,none⟩ (.int .i64 o1)).setCell ⟨w.heap.size,1,none⟩ (.int .i64 o2)).setCell ⟨w.heap.size,2,none⟩ (.int .i64 o3)).setCell ⟨w.heap.size,3,none⟩ (.int .u32 o4)).setCell ⟨w.heap.size,4,none⟩ (.int .i64 o5)).setCell ⟨w.heap.size,5,none⟩ (.int .i64 o6)).setCell ⟨w.heap.size,6,none⟩ (.int .i64 o7))=WF at *
   go_wp2_with fail
   go_meet
   exact ⟨w.heap.size,rfl,rfl,HRL.out⟩
 case rest =>
  obtain ⟨X,rfl,rfl,gX,hX,hb1⟩:=hcut
  have e4:=jA (kA hb1 HH.out.blk) 4
  have x1:=jA gX 1
  generalize wc=w3 at *
  have HSS2:jC (∀ V,Below w3.heap.size w3 V -> (fun V:uA=>V.cell? ⟨D,4,none⟩=yA (.slice c.cA c.cs.length c.cc)/\V.cell? ⟨X,1,none⟩=yA (.int .i64 o2)) V):=fA fun V hb=>⟨jA (kA hb (kA hb1 HH.out.blk)) 4,jA (kA hb gX) 1⟩
  have b0:Below w3.heap.size w3 w3.drew:=⟨rfl,rfl,rfl,mA _,fun _ _=>rfl⟩
  have bA:Below w3.heap.size w3 (w3.alloc (qN 0 0 0 none 0 0)).drew:=(wA w3 (qN 0 0 0 none 0 0)).drew
  have gA:=iB (rB w3 (qN 0 0 0 none 0 0))
  go_wp2_with fail
  go_cut [2,4,5] (fun r p q wx=>∃ Y a k,r=.pointer (yA ⟨X,0,none⟩)/\p=.pointer (yA ⟨Y,0,none⟩)/\q=.bool rb/\wx.heap[Y]?=yA (qN r1 r2 r3 a r4.length k)/\w3.heap.size<=Y/\Below w3.heap.size w3 wx)
  case first =>
   refine iC (S:=fun V:uA=>V.cell? ⟨D,4,none⟩=yA (.slice c.cA c.cs.length c.cc)/\V.cell? ⟨X,1,none⟩=yA (.int .i64 o2)) [12,13] ⟨e4,x1⟩ fun hH => ?_
   refine gU [0,1,2,3,104,5,106] ?_
   refine bU 7 11 (fun K hK => ?_) (fun K hK => ?_)
   ·go_simp
    go_at_call 30
    refine (HF.out _ (hb1.trans (b0.mono hb1.size))).mono ?_
    rintro e w4 ⟨a,ac,rfl,_,_,hb4'⟩
    have hbX:=b0.trans (hb4'.mono b0.size)
    refine hK.out _ _ (HSS2.out _ hbX) fun hH => ?_
    clear hK K
    refine gU [8,9,10] ?_
    refine oU 11 fun K hK => ?_
    go_simp
    refine hK.out _ _ (HSS2.out _ (hbX.trans ((wA w4 (qN 0 0 0 none 0 0)).mono hbX.size))) fun hH => ?_
    clear hK K
    refine tU 12 fun K hK => ?_
    have gY:=rB w4 (qN 0 0 0 none 0 0)
    have y0:=jA gY 0
    have y1:=jA gY 1
    have y2:=jA gY 2
    have y3:=jA gY 3
    have f0:=qB gY 0
    have f1:=qB gY 1
    have f2:=qB gY 2
    have f3:=qB gY 3
    go_simp
    refine hK.out _ _ ?_
    clear hK K
    refine tU 13 fun K hK => ?_
    go_simp
    refine hK.out _ _ ?_
    clear hK K
    refine gU [300] ?_
    have hYl:w3.heap.size<=w4.heap.size:=hbX.size
    have HRL:=fA (show (w4.alloc (qN r1 r2 r3 a r4.length ac)).heap[w4.heap.size]?=yA (qN r1 r2 r3 a r4.length ac)/\w3.heap.size<=w4.heap.size/\Below w3.heap.size w3 (w4.alloc (qN r1 r2 r3 a r4.length ac)) from ⟨rB _ _,hYl,hbX.trans ((wA w4 _).mono hbX.size)⟩)
    clear gY hYl y0 y1 y2 y3 f0 f1 f2 f3 hH
    generalize (w4.alloc (qN r1 r2 r3 a r4.length ac))=WF at *
    go_wp2_with fail
    go_meet
    exact ⟨w4.heap.size,a,ac,rfl,rfl,rfl,HRL.out⟩
   ·go_simp
    refine hK.out _ _ (HSS2.out _ bA) fun hH => ?_
    clear hK K
    refine oU 7 fun K hK => ?_
    go_simp
    go_at_call 30
    refine (HF.out _ (hb1.trans (bA.mono hb1.size))).mono ?_
    rintro e w4 ⟨a,ac,rfl,_,_,hb4'⟩
    have hbX:=bA.trans (hb4'.mono bA.size)
    have gY:=kA hb4' gA
    have y0:=jA gY 0
    have y1:=jA gY 1
    have y2:=jA gY 2
    have y3:=jA gY 3
    have f0:=qB gY 0
    have f1:=qB gY 1
    have f2:=qB gY 2
    have f3:=qB gY 3
    refine hK.out _ _ (HSS2.out _ hbX) fun hH => ?_
    clear hK K
    refine gU [8,9,10] ?_
    refine tU 12 fun K hK => ?_
    go_simp
    refine hK.out _ _ ?_
    clear hK K
    refine tU 13 fun K hK => ?_
    go_simp
    refine hK.out _ _ ?_
    clear hK K
    refine gU [300] ?_
    have hYl:w3.heap.size<=w3.heap.size:=mA _
    have HRL:=fA (show ((((w4.setCell ⟨w3.heap.size,0,none⟩ (.int .i64 r1)).setCell ⟨w3.heap.size,1,none⟩ (.int .i64 r2)).setCell ⟨w3.heap.size,2,none⟩ (.int .u32 r3)).setCell ⟨w3.heap.size,3,none⟩ (.slice a r4.length ac)).heap[w3.heap.size]?=yA (qN r1 r2 r3 a r4.length ac)/\w3.heap.size<=w3.heap.size/\Below w3.heap.size w3 ((((w4.setCell ⟨w3.heap.size,0,none⟩ (.int .i64 r1)).setCell ⟨w3.heap.size,1,none⟩ (.int .i64 r2)).setCell ⟨w3.heap.size,2,none⟩ (.int .u32 r3)).setCell ⟨w3.heap.size,3,none⟩ (.slice a r4.length ac)) from ⟨pT gY (.int .i64 r1) (.int .i64 r2) (.int .u32 r3) (.slice a r4.length ac),hYl,((((hbX.setCell (p:=⟨w3.heap.size,0,none⟩) hYl _).setCell (p:=⟨w3.heap.size,1,none⟩) hYl _).setCell (p:=⟨w3.heap.size,2,none⟩) hYl _).setCell (p:=⟨w3.heap.size,3,none⟩) hYl _)⟩)
    clear gY hYl y0 y1 y2 y3 f0 f1 f2 f3 hH
    generalize ((((w4.setCell ⟨w3.heap.size,0,none⟩ (.int .i64 r1)).setCell ⟨w3.heap.size,1,none⟩ (.int .i64 r2)).setCell ⟨w3.heap.size,2,none⟩ (.int .u32 r3)).setCell ⟨w3.heap.size,3,none⟩ (.slice a r4.length ac))=WF at *
    go_wp2_with fail
    go_meet
    exact ⟨w3.heap.size,a,ac,rfl,rfl,rfl,HRL.out⟩
  case rest =>
   obtain ⟨Y,a,k,rfl,rfl,rfl,gY,hY,hb5⟩:=hcut
   generalize wc=w5 at *
   have hb15:=hb1.trans (hb5.mono hb1.size)
   obtain ⟨y0,y1,y2,y3,_⟩:=nH gY
   have gX5:=kA hb5 gX
   have x4:=jA gX5 4
   have x5:=jA gX5 5
   have HCP:=fA (zEu Q base D c m r1 r2 r3 o5 o6 a r4.length k w5 (HH.out.below hb15) HO.out.r HO.out.t hl hos)
   cases ob
   ·go_wp2
    go_end0
    exact ⟨m,rfl,by rw [HBF.out];rfl,sG.refl HH.out hb15⟩
   ·cases rb
    ·go_wp2
     go_end0
     exact ⟨m,rfl,by rw [HBF.out];rfl,sG.refl HH.out hb15⟩
    ·go_wp2_with (go_at_call 183;refine HCP.out.mono ?_;rintro e w6 ⟨m',rfl,hm',hst⟩)
     go_end0
     exact ⟨m',rfl,by rw [hm',HBF.out];rfl,(sG.refl HH.out hb15).trans hst⟩
def zQB (cs:List Ch) (ns:List Nd) (al:List Int) (se:List Ch) (r:Ru) (t:Int):uS:=⟨.slice none 0 0,.slice none 0 0,r,t,ns,none,0,cs,none,0,al,none,0,se,none,0⟩
def uS.core (c:uS):uS:=zQB c.cs c.ns c.al c.se c.r c.t
theorem zGu (c:uS) (n:Ne) (x:Ch) (lives:List Int):∀ (k:Nat) (p:zAb),repL c n x lives k p=repL c.core n x lives k p
 | 0,_=>rfl
 | k + 1, p => by
  unfold repL
  simp only [zGu c n x lives k]
  rfl
theorem zHf (c:uS) (l:List Ne):∀ p,repairF c p l=repairF c.core p l:=by
 have h:∀ p n,zKL c p n=zKL c.core p n:=fun p n=>by
  unfold zKL
  generalize 1000=k
  exact zGu c n _ _ k p
 unfold repairF
 induction l with
 | nil=>intro p;rw [pV,pV]
 | cons n l ih=>intro p;rw [fL,fL,h,ih]
theorem zJc (c:uS) (l:List Ch):∀ p,trimsF c p l=trimsF c.core p l:=by
 have h:∀ p n,trimS c p n=trimS c.core p n:=fun p n=>by simp only [trimS,uS.core,zQB];rfl
 unfold trimsF
 induction l with
 | nil=>intro p;rw [pV,pV]
 | cons n l ih=>intro p;rw [fL,fL,h,ih]
theorem zLD (c:uS) (p:zAb):balF c p=balF c.core p:=rfl
def zDz (ns:List Nd) (cs:List Ch) (bs:List Bt) (ds:List Od) (r:Ru) (t:Int):uS:=zQB cs ns (jM bs t r.1) (bX cs (nE (fU t) ds)) r t
def zHj (c:uS):List Ne:=yY c.se c.ns c.al c.r.2.2.2.1
def zCI (c:uS) (p:zAb):zAb:=trimsF c (repairF c p (zHj c)) c.se
def zHi (c:uS) (p:zAb):zAb:=if (decide ((zHj c).length=0) && (decide ((zCI c p).1.length=0) && decide ((zCI c p).2.1.length=0)))=true then balF c (zCI c p) else zCI c p
def xO (ns:List Nd) (cs:List Ch) (bs:List Bt) (ls:List Le) (ds:List Od) (r:Ru) (t:Int):zAb:=zHi (zDz ns cs bs ds r t) (zCc ls t,nE (fU t) ds,[],[])
theorem zHz {cs:List Ch} (h:pG cs=true):∀ x ∈ cs,x.2.2.2.length<=16:=fun x hx=>by
 unfold pG at h
 rw [kC,List.all_eq_true] at h
 have h2:=h.1 x hx
 unfold mW at h2
 rw [kC] at h2
 have h3:=zAk _ _ _ h2.2
 omega
theorem zBu {cs:List Ch} (h:pG cs=true):cs.length<=32:=by
 unfold pG at h
 rw [kC,kC,decide_eq_true_eq] at h
 exact h.2.1
theorem zPo {cs:List Ch} {ds:List Od} (h:pG cs=true):∀ x ∈ bX cs ds,x.2.2.2.length<=16:=fun x hx=>by
 unfold bX at hx
 rw [jJ] at hx
 obtain ⟨y,hy,rfl⟩:=hx
 have h1:=zHz h y hy
 have h2:=wJ (fun id=>ctn (iM ds y.1) id) y.2.2.2
 unfold zAn
 dsimp only
 omega
theorem zGv (cs:List Ch) (ds:List Od):(bX cs ds).length=cs.length:=by unfold bX;rw [mC]
theorem zFT {cs:List Ch} (h:pG cs=true) (t:Int):(rF cs t).1.2.2.2.length<=16:=by
 unfold rF
 split
 ·rename_i hb
  unfold kL at hb
  rw [kC,decide_eq_true_eq] at hb
  rw [pB,rA hb.1]
  have hf:iD cs=cs:=by unfold iD;rw [if_pos h]
  have hm:∀ x ∈ iD cs,x ∈ cs:=fun x hx=>by rw [hf] at hx;exact hx
  exact zHz h _ (hm _ (wC hb.1))
 ·decide
theorem zEk {P:Ne -> Prop} {xs:List Ne} (h:∀ x ∈ xs,P x) (i:Nat) {y:Ne} (hy:P y):∀ x ∈ xs.set i y,P x:=fun x hx=>(List.mem_or_eq_of_mem_set hx).elim (h x) (fun e=>e ▸ hy)
section
variable {P:Ne -> Prop} (h0:P (0,0,0))
include h0
theorem zBt {xs:List Ne} (h:∀ x ∈ xs,P x) (i:Nat):P (xs.getD i (0,0,0)):=by
 rw [pB]
 by_cases hi:i<xs.length
 ·rw [rA hi];exact h _ (wC hi)
 ·rw [List.getElem?_eq_none (by omega)];exact h0
theorem zFF {xs:List Ne} (h:∀ x ∈ xs,P x) (i j:Nat):∀ x ∈ iQ xs i j,P x:=by
 unfold iQ
 exact zEk (zEk h i (zBt h0 h j)) j (zBt h0 h i)
theorem zKX:∀ (f:Nat) {xs:List Ne} (i:Nat),(∀ x ∈ xs,P x) -> ∀ x ∈ zHs f xs i,P x
 | 0,_,_,h=>h
 | f + 1, xs, i, h => by
  unfold zHs
  split
  ·exact zKX f _ (zFF h0 h _ _)
  ·exact h
theorem zFE:∀ (f:Nat) {xs:List Ne} (i:Nat),(∀ x ∈ xs,P x) -> ∀ x ∈ vR f xs i,P x
 | 0,_,_,h=>h
 | f + 1, xs, i, h => by
  unfold vR
  split
  ·exact h
  ·exact zFE f _ (zFF h0 h _ _)
theorem zNz {xs:List Ne} (h:∀ x ∈ xs,P x) {y:Ne} (hy:P y):∀ x ∈ zKH xs y,P x:=by
 unfold zKH
 exact zKX h0 _ _ fun x hx=>(xD.1 hx).elim (h x) (fun e=>(xB.1 e) ▸ hy)
theorem zLz {xs:List Ne} (h:∀ x ∈ xs,P x):∀ x ∈ uX xs,P x:=by
 unfold uX
 exact zFE h0 _ _ fun x hx=>zEk h 0 (zBt h0 h _) x (List.mem_of_mem_take hx)
theorem zEj:∀ (f:Nat) {xs:List Ne},(∀ x ∈ xs,P x) -> ∀ x ∈ qU f xs,P x
 | 0,_,_=>fun x hx=>by cases hx
 | f + 1, xs, h => fun x hx => by
  unfold qU at hx
  rcases List.mem_cons.1 hx with q | q
  ·rw [q];exact zBt h0 h 0
  ·exact zEj f (zLz h0 h) x q
theorem zJo (cs:List Ch) (ns:List Nd) (alive:List Int) (want:Int) (h:∀ c ∈ cs,P (zIs ns alive c)):∀ x ∈ yY cs ns alive want,P x:=by
 unfold yY
 refine zEj h0 _ ?_
 unfold kU
 have key:∀ (l:List Ch) (q:List Ne),(∀ c ∈ l,P (zIs ns alive c)) -> (∀ x ∈ q,P x) -> ∀ x ∈ l.foldl (zAz ns alive want) q,P x:=by
  intro l
  induction l with
  | nil=>intro q _ hq;exact hq
  | cons c l ih =>
   intro q hl hq
   rw [fL]
   refine ih _ (fun x hx=>hl x (tI _ hx)) ?_
   unfold zAz
   split
   ·exact zNz h0 hq (hl c (by simp))
   ·exact hq
 exact key cs [] h (fun x hx=>by cases hx)
end
theorem zMy {cs:List Ch} {ns:List Nd} {alive:List Int} {want:Int} (h:∀ c ∈ cs,c.2.2.2.length<=16):∀ x ∈ yY cs ns alive want,0<=x.2.1/\x.2.1<=1000000:=by
 refine zJo (P:=fun x=>0<=x.2.1/\x.2.1<=1000000) (by decide) cs ns alive want fun c hc => ?_
 have h1:=h c hc
 have h2:=xX c.2.2.2 alive
 have h3:(mM c.2.2.2 ns alive).length<=(sK c.2.2.2 alive).length:=wJ _ _
 unfold zIs
 dsimp only
 omega
theorem zMz (cs:List Ch) (ns:List Nd) (alive:List Int) (want:Int):(yY cs ns alive want).length<=cs.length:=by
 unfold yY
 rw [zCx]
 exact zDv ns alive want cs
structure nM (n:Nat) (p:zAb):Prop where
 ls:p.1.length<=100
 ds:p.2.1.length<=n
 os:∀ o ∈ p.2.2.1,zGC o
 xs:∀ x ∈ p.2.2.2,x.1=0/\x.2.2.1=6
theorem nM.mono {n m:Nat} {p:zAb} (h:nM n p) (hn:n<=m):nM m p:=⟨h.ls,pA h.ds hn,h.os,h.xs⟩
theorem zMY {xs:List Le} {x:Le} {e a:Int} (h:(jP xs x e a).2=0):zDW x=true:=by
 unfold jP at h
 split at h
 ·cases h
 ·rename_i q
  cases hq:zDW x
  ·exact absurd hq q
  ·rfl
theorem zQy {x:Le} (h:zDW x=true):Wf x.2.2.1/\Wf x.2.2.2.1:=by
 unfold zDW btw at h
 simp only [kC,decide_eq_true_eq] at h
 exact ⟨Wf.mk (by omega) (by omega),Wf.mk (by omega) (by omega)⟩
theorem zFd {r:Ru} (h:vT r=true):r.2.2.1<=64/\(1<=r.2.2.2.1/\r.2.2.2.1<=8):=by
 simp only [vT,zAS,kC,decide_eq_true_eq] at h
 omega
theorem nM.copyS {n : Nat} {p : zAb} (h : nM n p) {r : Ru} (hr : vT r = true) (t : Int) {x1 : Int} (x2 x3 f g : Int) (h1 : Wf x1) : nM n (Go.Proofs.YtogbpifcmhafkaaGreat.copyS r t p x1 x2 x3 f g).1 := by
 unfold Go.Proofs.YtogbpifcmhafkaaGreat.copyS
 split
 ·rename_i he
  obtain ⟨e1,e2⟩:=zDD he
  have hw:=zQy (zMY he)
  have ha:=(zFd hr).1
  refine ⟨?_,h.ds,fun o ho => ?_,h.xs⟩
  ·dsimp only
   rw [e1,kB]
   simp only [xH]
   omega
  ·rcases xD.1 ho with q | q
   ·exact h.os o q
   ·rw [xB] at q
    subst q
    exact ⟨h1,hw⟩
 ·exact h
theorem zFU {cs:List Ch} (h:pG cs=true) (t:Int):Wf (rF cs t).1.1:=by
 unfold rF
 rw [zBw h]
 split
 ·rename_i hb
  have hlt:=zGL hb
  rw [pB,rA hlt]
  exact Wf.sm (((zAd cs).1 h).2.2.2 _ (wC hlt))
 ·exact Wf.mk (by decide) (by decide)
theorem nM.repL {n:Nat} {c:uS} (hr:vT c.r=true) (q:Ne) {x:Ch} (lives:List Int) (h1:Wf x.1):∀ (k:Nat) {p:zAb},nM n p -> nM n (Go.Proofs.YtogbpifcmhafkaaGreat.repL c q x lives k p)
 | 0,_,h=>h
 | k + 1, p, h => by
  unfold Go.Proofs.YtogbpifcmhafkaaGreat.repL
  split
  ·split
   ·exact nM.repL hr q lives h1 k (h.copyS hr _ _ _ _ _ h1)
   ·exact h
  ·exact h
theorem nM.repairF {n:Nat} {c:uS} (hr:vT c.r=true) (hc:pG c.cs=true) (l:List Ne):∀ {p:zAb},nM n p -> nM n (Go.Proofs.YtogbpifcmhafkaaGreat.repairF c p l):=by
 unfold Go.Proofs.YtogbpifcmhafkaaGreat.repairF
 induction l with
 | nil=>intro p h;exact h
 | cons x l ih=>intro p h;exact ih (nM.repL hr _ _ (zFU hc _) _ h)
theorem vZ {α:Type} {p:α -> Bool} {xs:List α} {x:α} (h:x ∈ nE p xs):x ∈ xs:=(vI.1 h).1
theorem zLW {hs:List Int} {ns:List Nd} {al:List Int} {x:Int} (h:x ∈ mM hs ns al):x ∈ hs:=vZ (vZ h)
theorem zOe {xs:List Int} (h:0<xs.length):xs.getD 0 0 ∈ xs:=by
 rw [pB,rA h]
 exact wC h
theorem zOD (f : Int -> Int -> Int) {xs : List Int} (h : xs ≠ []) : zEQ f xs ∈ xs := by
 match xs,h with
 | x :: ys, _ =>
  unfold zEQ
  simp only [List.tail_cons,List.headD_cons]
  have key:∀ (l:List Int) (m:Int),(m ∈ x :: ys) -> (∀ y ∈ l,y ∈ x :: ys) -> l.foldl (fun m x=>if 0<f x m then x else m) m ∈ x :: ys:=by
   intro l
   induction l with
   | nil=>intro m h _;exact h
   | cons y l ih =>
    intro m hm hl
    refine ih _ ?_ (fun z hz=>hl z (tI _ hz))
    show (if 0<f y m then y else m) ∈ x :: ys
    split
    ·exact hl y (by simp)
    ·exact hm
  exact key ys x (by simp) (fun y hy=>tI _ hy)
theorem zJS {hs:List Int} (h:∀ x ∈ hs,Wf x) (ns:List Nd) (al:List Int) (ls:List Ld) (want:Int):Wf (cI hs ns al ls want).1:=by
 unfold cI
 have h0:Wf 0:=Wf.mk (by decide) (by decide)
 split
 ·exact h0
 rename_i h1
 split
 ·rename_i h2
  exact h _ (vZ (zOe h2))
 split
 ·exact h0
 ·rename_i h3
  refine h _ (zLW (zOD _ fun e => ?_))
  rw [e,List.length_nil] at h1 h3
  omega
theorem nM.trimS {n:Nat} {c:uS} {p:zAb} (h:nM n p) {x:Ch} (h1:Wf x.1) (h2:∀ y ∈ x.2.2.2,Wf y):nM (n+1) (Go.Proofs.YtogbpifcmhafkaaGreat.trimS c p x):=by
 unfold Go.Proofs.YtogbpifcmhafkaaGreat.trimS
 split
 ·exact h.mono (uE _)
 split
 ·exact h.mono (uE _)
 ·have hw:=zJS h2 c.ns c.al (zH c.cs c.ns p.1) c.r.2.2.2.1
  refine ⟨h.ls,?_,fun o ho => ?_,fun o ho => ?_⟩
  ·have:=h.ds
   simp only [kB,xH]
   omega
  ·rcases xD.1 ho with q | q
   ·exact h.os o q
   ·rw [xB] at q;subst q;exact ⟨h1,hw,hw⟩
  ·rcases xD.1 ho with q | q
   ·exact h.xs o q
   ·rw [xB] at q;subst q;exact ⟨rfl,rfl⟩
theorem nM.trimsF {c:uS} (l:List Ch):∀ {n:Nat} {p:zAb},nM n p -> (∀ x ∈ l,Wf x.1/\∀ y ∈ x.2.2.2,Wf y) -> nM (n+l.length) (Go.Proofs.YtogbpifcmhafkaaGreat.trimsF c p l):=by
 unfold Go.Proofs.YtogbpifcmhafkaaGreat.trimsF
 induction l with
 | nil=>intro n p h _;exact h
 | cons x l ih =>
  intro n p h hl
  have h1:=hl x (by simp)
  exact (ih (h.trimS (c:=c) h1.1 h1.2) (fun y hy=>hl y (tI _ hy))).mono (by simp only [qD];omega)
theorem nM.balF {n:Nat} {c:uS} {p:zAb} (h:nM n p) (hr:vT c.r=true) (hc:pG c.cs=true):nM n (Go.Proofs.YtogbpifcmhafkaaGreat.balF c p):=by
 unfold Go.Proofs.YtogbpifcmhafkaaGreat.balF
 split
 ·exact h.copyS hr _ _ _ _ _ (zFU hc _)
 ·exact h
theorem zPp {cs:List Ch} (h:pG cs=true) (ds:List Od):∀ x ∈ bX cs ds,Wf x.1/\∀ y ∈ x.2.2.2,Wf y:=fun x hx=>by
 unfold bX at hx
 rw [jJ] at hx
 obtain ⟨y,hy,rfl⟩:=hx
 obtain ⟨h1,h2,h3,h4⟩:=(zAd cs).1 h
 refine ⟨Wf.sm (h4 y hy),fun z hz => ?_⟩
 have:=((zT y).1 (h1 y hy)).2.2 z (vZ hz)
 exact Wf.mk (by omega) (by omega)
theorem zFc {ns:List Nd} {cs:List Ch} (bs:List Bt) {ls:List Le} {ds:List Od} {r:Ru} (t:Int) (hr:vT r=true) (hc:pG cs=true) (hl:ls.length<=100):nM (ds.length+32) (xO ns cs bs ls ds r t):=by
 have h0:nM ds.length ((zCc ls t,nE (fU t) ds,[],[]):zAb):=⟨pA (List.length_filter_le _ _) hl,wJ _ _,fun _ h=>(by cases h),fun _ h=>(by cases h)⟩
 have h1:nM (ds.length+32) (zCI (zDz ns cs bs ds r t) (zCc ls t,nE (fU t) ds,[],[])):=by
  have h2:=nM.trimsF (c:=zDz ns cs bs ds r t) (bX cs (nE (fU t) ds)) (nM.repairF (c:=zDz ns cs bs ds r t) hr hc (zHj (zDz ns cs bs ds r t)) h0) (zPp hc _)
  refine h2.mono ?_
  rw [zGv]
  have:=zBu hc
  omega
 unfold xO zHi
 split
 ·exact h1.balF hr hc
 ·exact h1
def Cl.readS (c:Cl) (t:Int) (x:Ch) (id:Int):Option (List UInt8):=match c.h id with
 | none=>none
 | some v=>if v.up=true/\(v.s.read t).2.2=0/\(v.s.read t).2.1=x.2.1/\U (sum (v.s.read t).1)=x.2.2.1 then yA (v.s.read t).1 else none
def Cl.readL (c : Cl) (t : Int) (x : Ch) : List Int -> List UInt8 × Int
 | []=>([],8)
 | id :: l => match c.readS t x id with
  | none=>c.readL t x l
  | some d=>(d,0)
def Cl.readC (c:Cl) (t:Int):List UInt8 × Int:=if (rF c.cs t).2 then c.readL t (rF c.cs t).1 (rF c.cs t).1.2.2.2 else ([],5)
def zNw (r:List UInt8 × Int) (w:uA) (e:Ending) (w':uA):Prop:=∃ A n,e=.returned (.tuple #[.slice A r.1.length n,r.2])/\bJ w' A r.1/\(A=none -> r.1.length=0)/\Below w.heap.size w w'
theorem zJW {cs:List Ch} (h:pG cs=true) (t:Int):∀ y ∈ (rF cs t).1.2.2.2,Wf y:=by
 unfold rF
 rw [zBw h]
 split
 ·rename_i hb
  have hlt:=zGL hb
  rw [pB,rA hlt]
  intro y hy
  have:=((zT _).1 (((zAd cs).1 h).1 _ (wC hlt))).2.2 y hy
  exact Wf.mk (by omega) (by omega)
 ·intro y hy;cases hy
theorem zPe (c:Cl) (t:Int) (x:Ch) (l:List Int) {k:Nat} (hk:k<l.length):c.readL t x (l.drop k)=match c.readS t x (l[k]'hk) with
  | none=>c.readL t x (l.drop (k+1))
  | some d=>(d,0):=by rw [List.drop_eq_getElem_cons hk];rfl
theorem zJB (R : Nat -> Prop) (C : Nat) (L : CL) (c : Cl) (t : Int) (w : uA) (h : iG R w C L c) (ho : ∀ k v, c.h k = yA v -> bH v.s) (hc : pG c.cs = true) (ht : Wf t) : Calls prog 7 #[(C,0), t] w (zNw (c.readC t) w) := by
 have c1:=jA h.blk 1
 have HH:=fA h
 have HO:=fA ho
 have HF:=fA (mS L.cA L.cc c.cs t w h.rc.in_)
 have HWF:=fA (zJW hc t)
 have hhl:=zFT hc t
 have HZ:jC (c.readC t=if (rF c.cs t).2 then c.readL t (rF c.cs t).1 (rF c.cs t).1.2.2.2 else ([],5)):=fA rfl
 generalize rF c.cs t=z at *
 obtain ⟨⟨x1,x2,x3,hs⟩,q⟩:=z
 dsimp only at hhl
 clear h ho hc
 go_enter func7,ntmps7
 cases q with
 | false =>
  have HZ2:jC (c.readC t=([],5)):=fA (by rw [HZ.out];rfl)
  go_wp2_with (go_at_call 30;refine HF.out.mono ?_;rintro e w1 ⟨a1,n1,rfl,own1,hm1,hb1⟩)
  go_ret2
  rw [HZ2.out]
  exact ⟨none,0,rfl,dC.nil,fun _=>rfl,hb1.alloc hb1.size _⟩
 | true =>
  have HZ2:jC (c.readC t=c.readL t (x1,x2,x3,hs) hs):=fA (by rw [HZ.out];rfl)
  go_wp2_with (go_at_call 30;refine HF.out.mono ?_;rintro e w1 ⟨a1,n1,rfl,own1,hm1,hb1⟩;have e3:=jA (rB w1 (qN x1 x2 x3 a1 hs.length n1)) 3)
  have hal:=hb1.trans ((wA w1 (qN x1 x2 x3 a1 hs.length n1)).mono hb1.size)
  have gX:=rB w1 (qN x1 x2 x3 a1 hs.length n1)
  have HRW:=fA ((yB.of_own own1 hm1).alloc (qN x1 x2 x3 a1 hs.length n1))
  have HN:=fA (xT own1)
  obtain ⟨X,hX⟩:∃ X,X=w1.heap.size:=⟨_,rfl⟩
  rw [<- hX] at gX
  have HX:=fA hX
  have HEX:=fA (fun (V:uA) (h:V=w1.alloc (qN x1 x2 x3 a1 hs.length n1))=>h)
  clear own1 hm1 e3
  generalize w1.alloc (qN x1 x2 x3 a1 hs.length n1)=W at *
  have HBW0:=fA hal
  have GX:=fA gX
  rw [<- hX]
  clear hal gX hb1 hX
  go_loopw [28] (fun i wr=>∃ (k:Nat),k<=hs.length/\i=.int .i64 (k:Int)/\jC (c.readL t (x1,x2,x3,hs) (hs.drop k)=c.readC t)/\Below W.heap.size W wr) (fun i _=>hs.length - (intOf i).toNat)
  case atStart=>exact ⟨0,by omega,rfl,fA HZ2.out.symm,Below.refl _ _⟩
  case round =>
   obtain ⟨k,hk,rfl,HI,hB⟩:=hrel
   have hk0:(0:Int)<=(k:Int):=by omega
   have HB:=fA (HBW0.out.trans (hB.mono HBW0.out.size))
   have HBW:jC (∀ V,Below wr.heap.size wr V -> Below W.heap.size W V):=fA fun V hv=>hB.trans (hv.mono hB.size)
   by_cases hlt:k<hs.length
   ·have hk1:(k:Int)<(hs.length:Int):=by omega
    have HE0:=fA (zPe c t (x1,x2,x3,hs) hs hlt)
    have hwf:=HWF.out _ (wC hlt)
    obtain ⟨b,off,rfl,blt,d0⟩:=uJ (HRW.out.below hB) hlt
    generalize (hs[k]'hlt)=id at *
    have hUP:=fA (zEp R C L c id wr (HH.out.below HB.out) hwf)
    have hfn:=(HH.out.below HB.out).hn id
    have hlk:=(HH.out.below HB.out).mp.look hwf
    have c13:=jA (HH.out.below HB.out).blk 13
    have HS:jC (c.readS t (x1,x2,x3,hs) id=match c.h id with
     | none=>none
     | some v=>if v.up=true/\(v.s.read t).2.2=0/\(v.s.read t).2.1=x2/\U (sum (v.s.read t).1)=x3 then yA (v.s.read t).1 else none):=fA rfl
    have HHO:=fA (fun H s S v=>(HH.out.below HB.out).ho id H s S v)
    have HPU:jC (c.upP id=((c.h id).map (·.up)).getD false):=fA rfl
    generalize c.upP id=pu at *
    have HEN:jC (c.readS t (x1,x2,x3,hs) id=none -> c.readL t (x1,x2,x3,hs) (hs.drop (k+1))=c.readC t):=fA fun h=>by rw [<- HI.out,HE0.out,h]
    have HES:jC (∀ d,c.readS t (x1,x2,x3,hs) id=yA d -> c.readC t=(d,0)):=fA fun d h=>by rw [<- HI.out,HE0.out,h]
    cases hh:c.h id with
    | none =>
     rw [hh] at HPU HS
     obtain rfl:pu=false:=HPU.out
     have HZ3:=fA (HEN.out HS.out)
     clear hfn hlk c13 hh
     go_wp2_with (go_at_call 13;refine hUP.out.mono ?_;rintro e w3 ⟨rfl,rfl⟩)
     go_roundw
     case rel=>exact ⟨k+1,by omega,by go_num,HZ3,hB⟩
     case measure=>simp [intOf];omega
    | some v =>
     rw [hh] at HPU HS
     obtain rfl:pu=v.up:=HPU.out
     cases hu:v.up with
     | false =>
      rw [hu] at hUP
      have HZ3:=fA (HEN.out (by rw [HS.out];dsimp only;rw [if_neg (by rw [hu];simp)]))
      clear hfn hlk c13 hh hu
      go_wp2_with (go_at_call 13;refine hUP.out.mono ?_;rintro e w3 ⟨rfl,rfl⟩)
      go_roundw
      case rel=>exact ⟨k+1,by omega,by go_num,HZ3,hB⟩
      case measure=>simp [intOf];omega
     | true =>
      rw [hu] at hUP
      cases hb:L.hb id with
      | none=>rw [hfn.1 hb] at hh;cases hh
      | some y =>
       obtain ⟨H,s,S⟩:=y
       rw [hb] at hlk
       simp only [hkey] at hlk
       obtain ⟨g1,g2⟩:=HHO.out H s S v hb hh
       have e0:=jA g1 0
       have HRD:=fA (zFl _ s S v.s t wr g2 (HO.out id v hh) ht)
       have hrl:=zEZ (HO.out id v hh) t
       have HS2:jC (((v.s.read t).2.2=0/\(v.s.read t).2.1=x2/\U (sum (v.s.read t).1)=x3 -> c.readC t=((v.s.read t).1,0))/\(¬ ((v.s.read t).2.2=0/\(v.s.read t).2.1=x2/\U (sum (v.s.read t).1)=x3) -> c.readL t (x1,x2,x3,hs) (hs.drop (k+1))=c.readC t)):=fA ⟨fun h=>HES.out _ (by rw [HS.out];dsimp only;rw [if_pos ⟨hu,h⟩]),fun h=>HEN.out (by rw [HS.out];dsimp only;rw [if_neg (fun q=>h q.2)])⟩
       generalize v.s.read t=z at *
       obtain ⟨ds,ver,er⟩:=z
       dsimp only at hrl
       clear hfn hh hu hb g1 g2 HHO HEN HES HS HPU
       go_wp2_with (first
        | (go_at_call 13;refine hUP.out.mono ?_;rintro e w3 ⟨rfl,rfl⟩)
        | (go_at_call 31;refine HRD.out.mono ?_;rintro e w4 ⟨A4,c4,rfl,own4,hb4⟩))
       have b4:Below w4.heap.size w4 w4.drew:=(xC w4).drew
       have hBW4:=HBW.out _ hb4
       have HBX:jC (∀ V,Below w4.heap.size w4 V -> Below W.heap.size W V):=fA fun V hv=>hBW4.trans (hv.mono hBW4.size)
       have hCB:bJ w4 A4 ds:=dC.of_own own4
       have HNL:=fA (xT own4)
       have HCB:=fA hCB
       have HSUM:=fA (fun V (hb:Below w4.heap.size w4 V)=>zBG A4 c4 ds V (hCB.below hb) (by omega))
       have HS9:jC (∀ V,Below w4.heap.size w4 V -> (fun V:uA=>V.cell? ⟨X,1,none⟩=yA (.int .i64 x2)/\V.cell? ⟨X,2,none⟩=yA (.int .u32 x3)) V):=fA fun V hb=>⟨jA (kA (HBX.out V hb) GX.out) 1,jA (kA (HBX.out V hb) GX.out) 2⟩
       clear hCB own4 hlk c13 e0 d0
       by_cases hee:er=0
       case neg =>
        have HZ3:=fA (HS2.out.2 (fun q=>hee q.1))
        have heb:(er == 0)=false:=by simpa using hee
        clear HS2
        refine iC (S:=fun V:uA=>V.cell? ⟨X,1,none⟩=yA (.int .i64 x2)/\V.cell? ⟨X,2,none⟩=yA (.int .u32 x3)) [] (HS9.out _ b4) fun hH => ?_
        refine gU [0,1,2,203,204,205,206,7,8,209,210,211,212,213,14,300] ?_
        clear hH
        go_wp2
        go_roundw
        case rel=>exact ⟨k+1,by omega,by go_num,HZ3,HBX.out _ (b4)⟩
        case measure=>simp [intOf];omega
       case pos =>
        subst hee
        by_cases hvv:ver=x2
        case neg =>
         have HZ3:=fA (HS2.out.2 (fun q=>hvv q.2.1))
         have heb:(ver == x2)=false:=by simpa using hvv
         clear HS2
         refine iC (S:=fun V:uA=>V.cell? ⟨X,1,none⟩=yA (.int .i64 x2)/\V.cell? ⟨X,2,none⟩=yA (.int .u32 x3)) [] (HS9.out _ b4) fun hH => ?_
         refine gU [0,1,2,3,4,105,6,7,8,209,210,211,212,213,14,300] ?_
         clear hH
         go_wp2
         go_roundw
         case rel=>exact ⟨k+1,by omega,by go_num,HZ3,HBX.out _ (b4)⟩
         case measure=>simp [intOf];omega
        case pos =>
         have hvv2:=hvv.symm
         subst hvv2
         by_cases hss:U (sum ds)=x3
         case neg =>
          have HZ3:=fA (HS2.out.2 (fun q=>hss q.2.2))
          have heb:(U (sum ds) == x3)=false:=by simpa using hss
          clear HS2
          refine iC (S:=fun V:uA=>V.cell? ⟨X,1,none⟩=yA (.int .i64 x2)/\V.cell? ⟨X,2,none⟩=yA (.int .u32 x3)) [] (HS9.out _ b4) fun hH => ?_
          refine gU [0,1,2,3,4,105,6,7,8,9,11,112] ?_
          refine oU 10 fun K hK => ?_
          go_simp
          go_at_call 32
          refine (HSUM.out _ b4).mono ?_
          rintro e w5 ⟨rfl,hb5⟩
          have hb45:=b4.trans hb5
          refine hK.out _ _ (HS9.out _ hb45) fun hH => ?_
          clear hK K
          refine gU [13,14,300] ?_
          clear hH
          go_wp2
          go_roundw
          case rel=>exact ⟨k+1,by omega,by go_num,HZ3,HBX.out _ (hb45)⟩
          case measure=>simp [intOf];omega
         case pos =>
          have HZ3:=fA (HS2.out.1 ⟨rfl,rfl,hss⟩)
          clear HS2
          refine iC (S:=fun V:uA=>V.cell? ⟨X,1,none⟩=yA (.int .i64 x2)/\V.cell? ⟨X,2,none⟩=yA (.int .u32 x3)) [] (HS9.out _ b4) fun hH => ?_
          refine gU [0,1,2,3,4,105,6,7,8,9,11,112] ?_
          refine oU 10 fun K hK => ?_
          go_simp
          go_at_call 32
          refine (HSUM.out _ b4).mono ?_
          rintro e w5 ⟨rfl,hb5⟩
          have hb45:=b4.trans hb5
          refine hK.out _ _ (HS9.out _ hb45) fun hH => ?_
          clear hK K
          refine gU [13,14,300] ?_
          clear hH
          go_wp2
          go_ret2
          rw [HZ3.out]
          exact ⟨A4,c4,rfl,HCB.out.below hb45,HNL.out,HBW0.out.trans ((HBX.out _ hb45).mono HBW0.out.size)⟩
   ·have hke:k=hs.length:=by omega
    have hk1:¬ (k:Int)<(hs.length:Int):=by omega
    have HZ3:jC (c.readC t=([],8)):=fA (by rw [<- HI.out,hke,List.drop_length];rfl)
    go_wp2
    go_ret2
    rw [HZ3.out]
    exact ⟨none,0,rfl,dC.nil,fun _=>rfl,HB.out⟩
def Cl.set1 (c:Cl) (a:Int) (s:Sv) (u:Bool):Cl:={ c with h:=eH c.h a (yA ⟨s,u⟩) }
def Cl.wrStep (a ver sm:Int) (d:List UInt8) (p:Cl × List Int) (id:Int):Cl × List Int:=match p.1.h id with
 | none=>p
 | some v=>(p.1.set1 id (v.s.take a ver sm d).1 v.up,if (v.s.take a ver sm d).2 then p.2 ++ [id] else p.2)
def Cl.wrTakes (c:Cl) (a ver sm:Int) (d:List UInt8) (ids:List Int):Cl × List Int:=ids.foldl (Cl.wrStep a ver sm d) (c,[])
def Cl.wrAlive (c:Cl):List Int:=nE (fun id => !c.upP id) (jM c.bs c.t c.r.1)
def Cl.wrIds (c:Cl) (ns:List Nd):List Int:=gZ ns c.wrAlive c.r.2.2.2.1.toNat (gJ c.cs ns) []
def Cl.wrC (a ver:Int) (c:Cl) (ids:List Int):Cl:=ids.foldl (fun c id=>(c.knw 5 a id ver).1) c
def Cl.wrB (a ver:Int) (ns:List Nd) (cs:List Ch) (p:Cl × List Int):Cl × Int:=if p.2.length=0 then (p.1,7) else (Cl.wrC a ver { p.1 with ns:=ns,cs:=cs } p.2,0)
def Cl.wrZ (c:Cl) (a sm:Int) (d:List UInt8) (z:List Nd × List Ch × Int):Cl × Int:=if z.2.2<0 then (c,wrap64 (-z.2.2)) else Cl.wrB a z.2.2 z.1 z.2.1 (c.wrTakes a z.2.2 sm d (c.wrIds z.1))
def Cl.write (c:Cl) (a b:Int):Cl × Int:=c.wrZ a (U (sum (yS a b))) (yS a b) (lT (if (rF c.cs a).2 then 4 else 3) a (U (sum (yS a b))) 0 c.ns c.cs)
theorem zHt (c:Cl) (a ver sm:Int) (d:List UInt8) (l:List Int) {k:Nat} (hk:k<l.length):c.wrTakes a ver sm d (l.take (k+1))=Cl.wrStep a ver sm d (c.wrTakes a ver sm d (l.take k)) (l[k]'hk):=by
 unfold Cl.wrTakes
 rw [tB hk,iE]
 rfl
theorem zPN (a ver:Int) (c:Cl) (l:List Int) {k:Nat} (hk:k<l.length):Cl.wrC a ver c (l.take (k+1))=((Cl.wrC a ver c (l.take k)).knw 5 a (l[k]'hk) ver).1:=by
 unfold Cl.wrC
 rw [tB hk,iE]
 rfl
theorem zQo {xs:List Int} {t:Int} (h:ctn xs t=true):t ∈ xs:=by
 unfold ctn at h
 rcases fM (fun y=>decide (t=y)) xs 0 with ⟨e,_⟩ | ⟨k,hk,e,ht,_⟩
 ·unfold eU at h
  rw [e] at h
  exact absurd h (by decide)
 ·have:=wC hk
  rw [<- of_decide_eq_true ht] at this
  exact this
theorem zQU (ns : List Nd) (al : List Int) (ls : List Ld) (hs : List Int) (l : List Nd) : (zPH ns al ls hs l).2.2 = true -> (zPH ns al ls hs l).1 ∈ al := by
 unfold zPH
 have key:∀ (l:List Nd) (s:zPV),(s.2.2=true -> s.1 ∈ al) -> (l.foldl (zRO ns al ls hs) s).2.2=true -> (l.foldl (zRO ns al ls hs) s).1 ∈ al:=by
  intro l
  induction l with
  | nil=>intro s h;exact h
  | cons x l ih =>
   intro s h
   refine ih _ ?_
   unfold zRO
   split
   ·rename_i hc
    intro _
    rw [kC] at hc
    have:=hc.1
    unfold zKw at this
    simp only [kC] at this
    exact zQo this.1.1.2
   ·exact h
 exact key l _ (fun h=>by cases h)
theorem zIp (ns : List Nd) (al : List Int) : ∀ (n : Nat) (ls : List Ld) (t : List Int), (∀ x ∈ t, x ∈ al) -> (∀ x ∈ gZ ns al n ls t, x ∈ al) /\ (gZ ns al n ls t).length <= t.length + n
 | 0,_,_,h=>⟨h,mA _⟩
 | n + 1, ls, t, h => by
  unfold gZ
  split
  ·rename_i hc
   have:=zIp ns al n (((yM ns al ls t).1,kF ls (yM ns al ls t).1+1) :: ls) (t ++ [(yM ns al ls t).1]) (fun x hx=>by
    rcases xD.1 hx with q | q
    ·exact h x q
    ·rw [xB] at q;rw [q];exact zQU ns al ls t ns hc)
   refine ⟨this.1,?_⟩
   have h2:=this.2
   rw [kB,xH] at h2
   omega
  ·exact ⟨h,by omega⟩
theorem zQC {ns:List Nd} (h:jH 0 ns=true):ns.length<=16:=by
 obtain ⟨h1,h2⟩:=(zBD 0 ns).1 h
 have h3:mJ (ns.map (·.1)) 1 16=true:=(zBE _ _ _).2 ⟨h1,fun x hx=>by
  obtain ⟨y,hy,rfl⟩:=jJ.1 hx
  have:=(h2 y hy).1
  unfold fZ btw at this
  simp only [kC,decide_eq_true_eq] at this
  omega⟩
 have:=zAk _ _ _ h3
 rw [mC] at this
 omega
theorem zLc:∀ (l:Int) (xs:List Bt),cY l xs=true -> ∀ x ∈ xs,zGM x=true
 | _,[],_,x,h=>by cases h
 | l, y :: ys, h, x, hx => by
  unfold cY at h
  simp only [kC] at h
  rcases List.mem_cons.mp hx with rfl | hx
  ·exact h.1.1
  ·exact zLc _ ys h.2 x hx
theorem zEL (bs:List Bt) (t limit:Int):∀ x ∈ jM bs t limit,Wf x:=fun x hx=>by
 unfold jM zBe at hx
 obtain ⟨y,hy,rfl⟩:=jJ.1 hx
 have hy:=(vI.1 hy).1
 unfold vG at hy
 split at hy
 ·rename_i hb
  have:=zLc _ _ hb y hy
  unfold zGM at this
  simp only [kC,decide_eq_true_eq] at this
  exact Wf.mk (by omega) (by omega)
 ·cases hy
theorem zKS (c:Cl):∀ x ∈ c.wrAlive,Wf x/\∃ v,c.h x=yA v:=fun x hx=>by
 unfold Cl.wrAlive nE at hx
 obtain ⟨h1,h2⟩:=vI.1 hx
 refine ⟨zEL _ _ _ x h1,?_⟩
 unfold Cl.upP at h2
 dsimp only at h2
 cases hv:c.h x with
 | none=>rw [hv] at h2;simp at h2
 | some v=>exact ⟨v,rfl⟩
structure zCS (c:Cl) (p:Cl × List Int):Prop where
 eq:∃ h,p.1={ c with h:=h }
 dom:∀ k,(∃ v,c.h k=yA v) -> ∃ v,p.1.h k=yA v
 sv:∀ k v,p.1.h k=yA v -> bH v.s
theorem zCS.step {c : Cl} {p : Cl × List Int} (h : zCS c p) {a : Int} (ver sm : Int) {d : List UInt8} (ha : Wf a) (hd : d.length <= 64) (id : Int) : zCS c (Cl.wrStep a ver sm d p id) := by
 unfold Cl.wrStep
 split
 ·exact h
 ·rename_i v hv
  obtain ⟨hf,he⟩:=h.eq
  refine ⟨⟨eH p.1.h id (yA ⟨(v.s.take a ver sm d).1,v.up⟩),by unfold Cl.set1;rw [he]⟩,fun k hk => ?_,fun k u hu => ?_⟩
  ·by_cases e:k=id
   ·subst e;exact ⟨_,iF _ _ _⟩
   ·obtain ⟨u,hu⟩:=h.dom k hk
    exact ⟨u,by show eH _ _ _ k=_;rw [fG _ _ e];exact hu⟩
  ·by_cases e:k=id
   ·subst e
    have hu:eH p.1.h k (yA ⟨(v.s.take a ver sm d).1,v.up⟩) k=yA u:=hu
    rw [iF] at hu
    injection hu with hu
    subst hu
    exact (h.sv k v hv).take ha hd
   ·have hu:eH p.1.h id (yA ⟨(v.s.take a ver sm d).1,v.up⟩) k=yA u:=hu
    rw [fG _ _ e] at hu
    exact h.sv k u hu
theorem zCS.all {c:Cl} (ho:∀ k v,c.h k=yA v -> bH v.s) {a:Int} (ver sm:Int) {d:List UInt8} (ha:Wf a) (hd:d.length<=64) (l:List Int):zCS c (c.wrTakes a ver sm d l):=by
 unfold Cl.wrTakes
 have key:∀ (l:List Int) (p:Cl × List Int),zCS c p -> zCS c (l.foldl (Cl.wrStep a ver sm d) p):=by
  intro l
  induction l with
  | nil=>intro p h;exact h
  | cons x l ih=>intro p h;exact ih _ (h.step ver sm ha hd x)
 exact key l _ ⟨⟨c.h,rfl⟩,fun _ h=>h,ho⟩
theorem zJf (c : Cl) (a ver sm : Int) (d : List UInt8) (l : List Int) : (c.wrTakes a ver sm d l).2.length <= l.length := by
 unfold Cl.wrTakes
 have key:∀ (l:List Int) (p:Cl × List Int),(l.foldl (Cl.wrStep a ver sm d) p).2.length<=p.2.length+l.length:=by
  intro l
  induction l with
  | nil=>intro p;exact mA _
  | cons x l ih =>
   intro p
   refine pA (ih _) ?_
   have:(Cl.wrStep a ver sm d p x).2.length<=p.2.length+1:=by
    unfold Cl.wrStep
    split
    ·exact uE _
    ·dsimp only
     split
     ·rw [kB];exact mA _
     ·exact uE _
   simp only [qD]
   omega
 have:=key l (c,[])
 simpa using this
theorem iG.monoR {R R':Nat -> Prop} {w:uA} {C:Nat} {L:CL} {c:Cl} (h:iG R w C L c) (hr:∀ x,x<w.heap.size -> R x -> R' x):iG R' w C L c:=by
 have f:∀ x,L.rd R w C x -> L.rd R' w C x:=fun x hx=>⟨hr x hx.2.2 hx.1,hx.2.1,hx.2.2⟩
 exact ⟨h.blk,h.rn.mono f,h.rc.mono f,h.rb.mono f,h.rl.mono f,h.rd.mono f,h.mp,h.hn,fun k H s S v hk hv=>⟨(h.ho k H s S v hk hv).1,qS.mono2 (h.ho k H s S v hk hv).2 fun x hl hx _=>⟨hr x hl hx.1,hx.2⟩⟩,h.ne,h.cm,h.ce,h.ch,h.hh⟩
theorem rC.monoR {R R':Nat -> Prop} {w w':uA} {C:Nat} {L L':CL} {c':Cl} (h:rC R C L L' c' w w') (hr:∀ x,x<w'.heap.size -> R x -> R' x):rC R' C L L' c' w w':=⟨h.at_.monoR hr,h.chg,h.fr⟩
end Go.Proofs.YtogbpifcmhafkaaGreat
