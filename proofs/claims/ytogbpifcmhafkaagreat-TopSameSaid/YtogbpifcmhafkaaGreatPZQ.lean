/-
 Part PZQ of the proof.
-/
import Derived.Test.YtogbpifcmhafkaaGreatPZN
import Derived.Test.YtogbpifcmhafkaaGreatPZP
open And renaming intro->gG
open Go renaming World->uA
open Go.Instr renaming lookup->eE
open Go.Lib renaming hid->fA
open Go.RowKit renaming Hid->jC
open List renaming mem_singleton->xB,take_length->sJ
open Nat renaming le_refl->mA,le_trans->pA
open Option renaming some->yA
namespace Go.Proofs.YtogbpifcmhafkaaGreat
open Go.RowKit Tryz
open Go.Lib(hid)
set_option linter.unusedVariables false
set_option linter.unusedSimpArgs false
set_option maxRecDepth 100000
set_option maxHeartbeats 16000000
abbrev cmO (K a s:Int):Obj:=.cells #[.int .i64 0,.int .i64 0,K,a,s,.int .i64 0] 99
theorem rC.grown {R:Nat -> Prop} {w w12 w13:uA} {C:Nat} {L L':CL} {c:Cl} {A2 A5:Option Addr} (st:rC (fun x=>R x/\x ∉ zB A2) C L L' c w w12) (hC:fD (zB A2) w12 w13) (hA:∀ x ∈ zB A5,x ∈ zB A2\/w12.heap.size<=x) (hn:∀ x ∈ zB A2,¬ L'.own C x) (hb:∀ x ∈ zB A2,w.heap.size<=x):rC (fun x=>R x/\x ∉ zB A5) C L L' c w w13:=by
 have h1:iG (fun x=>R x/\x ∉ zB A2/\x ∉ zB A5) w12 C L' c:=st.at_.monoR fun x hl hx=>⟨hx.1,hx.2,fun q=>(hA x q).elim hx.2 (fun p=>by omega)⟩
 have hP:cJ (fun x=>x ∈ zB A2) w12 w13:=cJ.of hC fun x hx=>.inl hx
 exact ⟨(h1.out hP fun x hx=>⟨fun q=>q.2.1 hx,hn x hx⟩).monoR fun x _ hx=>⟨hx.1,hx.2.2⟩,st.chg.trans hP (fun x hx=>.inr (hb x hx)),st.fr⟩
theorem rC.cells {R:Nat -> Prop} {w w':uA} {C:Nat} {L L':CL} {c:Cl} {A:Option Addr} {xs:List Value} (st:rC R C L L' c w w') (h:dC w A xs) (hA:∀ x ∈ zB A,¬ L.own C x):dC w' A xs:=by
 obtain ⟨T,hT,hC⟩:=st.chg.list
 exact h.chg hC fun x hx q=>hA x hx (hT x q).1
theorem rC.own {R:Nat -> Prop} {w w':uA} {C:Nat} {L L':CL} {c:Cl} {base k n m q:Nat} {e:TypeId} {A:Option Addr} {xs:List Value} (st:rC R C L L' c w w') (h:w.ownsRow base e k (.slice A n q) m xs) (hA:∀ x ∈ zB A,¬ L.own C x):w'.ownsRow base e k (.slice A n q) m xs:=by
 obtain ⟨T,hT,hC⟩:=st.chg.list
 exact xE h hC fun x hx q=>hA x hx (hT x q).1
theorem U_rng (x:BitVec 32):0<=U x/\U x<=4294967295:=by
 unfold U
 have:=x.isLt
 omega
theorem zGR (R:Nat -> Prop) (C:Nat) (L:CL) (c:Cl) (B:Nat) (id:Int) (W:uA) (h:iG R W C L c) (hB:W.cell? ⟨B,0,none⟩=yA (.pointer (yA ⟨C,0,none⟩))) (hw:Wf id):Calls prog 56 #[id,(B,0)] W fun e w'=>e=.returned (.bool (!c.upP id))/\Below W.heap.size W w':=by
 have HU:=fA (zEp R C L c id W h hw)
 clear h
 generalize c.upP id=q at *
 go_enter func56,ntmps56
 go_wp2_with (go_at_call 13;refine HU.out.mono ?_;rintro e w1 ⟨rfl,rfl⟩)
 go_ret
 exact ⟨rfl,xC _⟩
theorem zHE (R:Nat -> Prop) (C:Nat) (L:CL) (c:Cl) (k a b d:Int) (w:uA) (h:iG R w C L c) (hR:∀ x,w.heap.size<=x -> R x) (ho:∀ k v,c.h k=yA v -> bH v.s) (hru:vT c.r=true) (hns:jH 0 c.ns=true) (hcs:pG c.cs=true) (ha:Wf a) (m:Nat) (hm:L.ok m) (hm2:m+40<1000000) :
  Calls prog 21 #[.pointer (yA ⟨C,0,none⟩),.agg #[k,a,b,d]] w (lL R C L 20 w (.int .i64 (c.write a b).2) (c.write a b).1):=by
 have hal:=yI w (.cells #[.pointer (yA ⟨C,0,none⟩)] 26) (.cells #[k,a,b,d] 32)
 have gB:=kA (wA (w.alloc (.cells #[.pointer (yA ⟨C,0,none⟩)] 26)) (.cells #[k,a,b,d] 32)) (rB w (.cells #[.pointer (yA ⟨C,0,none⟩)] 26))
 have gI:=rB (w.alloc (.cells #[.pointer (yA ⟨C,0,none⟩)] 26)) (.cells #[k,a,b,d] 32)
 rw [show (w.alloc (.cells #[.pointer (yA ⟨C,0,none⟩)] 26)).heap.size=w.heap.size+1 by simp] at gI
 have HH:=fA h
 have HR:=fA hR
 have HO:=fA ho
 have HM:=fA hm
 have HU:=fA (gG hru (gG hns hcs))
 have HST0:=fA (rC.refl h hal)
 have HAL:=fA hal
 have hdl:(yS a b).length=4:=rfl
 have HZ:jC (c.write a b=c.wrZ a (U (sum (yS a b))) (yS a b) (lT (if (rF c.cs a).2 then 4 else 3) a (U (sum (yS a b))) 0 c.ns c.cs)):=fA rfl
 have HDT:=fA (fun V=>zJy a b V)
 obtain ⟨dd,hdd⟩:∃ dd,dd=yS a b:=⟨_,rfl⟩
 have hsm:0<=U (sum dd)/\U (sum dd)<=4294967295:=U_rng _
 rw [<- hdd] at HZ HDT hdl
 have HSM:=fA (fun A cc (V:uA) (hb:bJ V A dd)=>(by have:=zBG A cc dd V hb (by omega);rwa [hdl] at this:Calls prog 32 #[.slice A 4 cc] V fun e w'=>e=.returned (.int .u32 (U (sum dd)))/\Below V.heap.size V w'))
 have HDL:=fA hdl
 generalize U (sum dd)=sm at *
 have hw1:IntKind.i64.wrap sm=sm:=oH (by omega) (by omega)
 have hw2:wrap64 sm=sm:=zBI (by omega) (by omega)
 have b0:=jA gB 0
 have i1:=jA gI 1
 have i2:=jA gI 2
 have GB:=fA gB
 have GI:=fA gI
 have HDD:=fA hdd
 clear h hR ho hm hru hns hcs hal gB gI hdd hdl
 go_enter func21,ntmps21
 go_upto_region 3 with (first
  | (go_at_call 54;(with_reducible refine (HDT.out _).mono ?_);rintro e w1 ⟨A1,c1,rfl,own1,hb1⟩;have HCB1:jC (bJ w1 A1 dd):=fA (dC.of_own own1))
  | (go_at_call 32;(refine (HSM.out A1 c1 w1 HCB1.out).mono ?_);rintro e w2 ⟨rfl,hb2⟩;have hb02:=hb1.trans (hb2.mono hb1.size);have u1:=jA (kA hb02 GI.out) 1))
 obtain ⟨B,hB⟩:∃ B,B=w.heap.size:=⟨_,rfl⟩
 obtain ⟨I,hI⟩:∃ I,I=w.heap.size+1:=⟨_,rfl⟩
 obtain ⟨X,hX⟩:∃ X,X=w2.heap.size:=⟨_,rfl⟩
 have hb03:=hb02.trans ((wA w2 (.cells #[.int .i64 0,.int .i64 0,.int .i64 3,a,sm,.int .i64 0] 99)).mono hb02.size)
 have HBW:=fA (HAL.out.trans (hb03.mono HAL.out.size))
 have HGB:=fA (kA hb03 GB.out)
 have HGI:=fA (kA hb03 GI.out)
 have HGX:=fA (rB w2 (.cells #[.int .i64 0,.int .i64 0,.int .i64 3,a,sm,.int .i64 0] 99))
 have HCB:=fA (bJ.below HCB1.out (hb2.trans ((wA w2 (.cells #[.int .i64 0,.int .i64 0,.int .i64 3,a,sm,.int .i64 0] 99)).mono hb2.size)))
 have HNL:=fA (xT own1)
 have h0s:w.heap.size+2=((w.alloc (.cells #[.pointer (yA ⟨C,0,none⟩)] 26)).alloc (.cells #[k,a,b,d] 32)).heap.size:=by simp
 have HO1:=fA (fun x hx=>(qC own1 x hx).1)
 have HX1:=fA (show w.heap.size+2<=X from by rw [hX,h0s];exact hb02.size)
 have HO1':jC (∀ x ∈ zB A1,w.heap.size+2<=x/\x<X):=fA fun x hx=>⟨by rw [h0s];exact (qC own1 x hx).1,by rw [hX];exact Nat.lt_of_lt_of_le (qC own1 x hx).2 hb2.size⟩
 have HXW:jC (X<(w2.alloc (.cells #[.int .i64 0,.int .i64 0,.int .i64 3,a,sm,.int .i64 0] 99)).heap.size):=fA (by rw [hX];simp)
 rw [<- hX] at HGX
 rw [<- hB] at HGB
 rw [<- hI] at HGI
 have HE:=fA (gG hB (gG hI hX))
 go_cut [7] (fun p wx=>p=.pointer (yA ⟨w2.heap.size,0,none⟩)/\wx=w2.alloc (.cells #[.int .i64 0,.int .i64 0,.int .i64 3,a,sm,.int .i64 0] 99))
 case first =>
  clear hB hI hX
  go_wp2_with fail
  go_meet
  exact ⟨rfl,rfl⟩
 case rest =>
  obtain ⟨rfl,rfl⟩:=hcut
  rw [<- hX,<- hI,<- hB]
  clear hB hI hX b0 i1 i2 u1 own1 hb1 hb2 hb02 hb03 HCB1 h0s HDT HSM HO1 HAL HST0 GB GI
  generalize w2.alloc (.cells #[.int .i64 0,.int .i64 0,.int .i64 3,a,sm,.int .i64 0] 99)=W at *
  have HA:=fA (HH.out.below HBW.out)
  have HNX:jC (∀ x,w.heap.size<=x -> ¬ L.own C x):=fA fun x hx q=>by have:=HH.out.own_lt q;omega
  have HFC:=fA (fun V (hb:Below W.heap.size W V)=>mS L.cA L.cc c.cs a V (HA.out.below hb).rc.in_)
  generalize rF c.cs a=fc at *
  obtain ⟨⟨x1,x2,x3,hs⟩,q⟩:=fc
  obtain ⟨Kq,hKq⟩:∃ Kq:Int,Kq=if q then 4 else 3:=⟨_,rfl⟩
  have HK:=fA hKq
  have HZK:jC (c.write a b=c.wrZ a sm dd (lT Kq a sm 0 c.ns c.cs)):=fA (by rw [HZ.out,hKq])
  have HS4:jC (∀ V,Below W.heap.size W V -> (fun V:uA=>V.cell? ⟨B,0,none⟩=yA (.pointer (yA ⟨C,0,none⟩))/\V.cell? ⟨C,1,none⟩=yA (.slice L.cA c.cs.length L.cc)/\V.cell? ⟨I,1,none⟩=yA (.int .i64 a)) V):=fA fun V hb=>⟨jA (kA hb HGB.out) 0,jA (kA hb HA.out.blk) 1,jA (kA hb HGI.out) 1⟩
  clear hKq HZ
  refine (by assumption:∀ (a:Act) (w:uA),_ -> _) _ _ ?_
  go_step
  go_cut [] (fun wx=>wx.heap[X]?=yA (cmO Kq a sm)/\fD [X] W wx)
  case first =>
   have b0:Below W.heap.size W W.drew:=(xC W).drew
   have bA:Below W.heap.size W (W.alloc (.cells #[.int .i64 0,.int .i64 0,.int .u32 0,.slice none 0 0] 65)).drew:=(wA W (.cells #[.int .i64 0,.int .i64 0,.int .u32 0,.slice none 0 0] 65)).drew
   have gA:=iB (rB W (.cells #[.int .i64 0,.int .i64 0,.int .u32 0,.slice none 0 0] 65))
   go_wp2_with fail
   refine iC (S:=fun V:uA=>V.cell? ⟨B,0,none⟩=yA (.pointer (yA ⟨C,0,none⟩))/\V.cell? ⟨C,1,none⟩=yA (.slice L.cA c.cs.length L.cc)/\V.cell? ⟨I,1,none⟩=yA (.int .i64 a)) [12] (HS4.out _ b0) fun hH => ?_
   refine gU [100,1,2,3,104,5,106] ?_
   refine bU 7 11 (fun K hK => ?_) (fun K hK => ?_)
   ·go_simp
    go_at_call 30
    (with_reducible refine (HFC.out _ b0).mono ?_)
    rintro e w4 ⟨a4,n4,rfl,_,_,hb4⟩
    have hbX:=b0.trans (hb4.mono b0.size)
    refine hK.out _ _ (HS4.out _ hbX) fun hH => ?_
    clear hK K
    refine gU [8,9,10] ?_
    refine oU 11 fun K hK => ?_
    go_simp
    refine hK.out _ _ (HS4.out _ (hbX.trans ((wA w4 (.cells #[.int .i64 0,.int .i64 0,.int .u32 0,.slice none 0 0] 65)).mono hbX.size))) fun hH => ?_
    clear hK K
    refine tU 12 fun K hK => ?_
    have gY:=rB w4 (.cells #[.int .i64 0,.int .i64 0,.int .u32 0,.slice none 0 0] 65)
    have y0:=jA gY 0
    have y1:=jA gY 1
    have y2:=jA gY 2
    have y3:=jA gY 3
    have f0:=qB gY 0
    have f1:=qB gY 1
    have f2:=qB gY 2
    have f3:=qB gY 3
    go_simp
    refine hK.out _ _ ?_
    clear hK K
    refine gU [13,300] ?_
    have HBF:=fA (hbX.trans ((wA w4 (.cells #[x1,x2,.int .u32 x3,.slice a4 hs.length n4] 65)).mono hbX.size))
    clear gY y0 y1 y2 y3 f0 f1 f2 f3 hH hbX hb4
    generalize (w4.alloc (.cells #[x1,x2,.int .u32 x3,.slice a4 hs.length n4] 65))=WF at *
    have gXF:=kA HBF.out HGX.out
    cases q with
    | true =>
     obtain rfl:Kq=4:=HK.out
     have z2:=jA gXF 2
     have k2:=qB gXF 2
     have GXF:=fA gXF
     clear gXF
     go_wp2_with fail
     go_meet
     exact ⟨by simpa using zD (i:=2) GXF.out (.int .i64 4),(fD.of_below HBF.out).setCell (.inl (by simp)) 2 _⟩
    | false =>
     obtain rfl:Kq=3:=HK.out
     have GXF:=fA gXF
     clear gXF
     go_wp2_with fail
     go_meet
     exact ⟨GXF.out,fD.of_below HBF.out⟩
   ·go_simp
    refine hK.out _ _ (HS4.out _ bA) fun hH => ?_
    clear hK K
    refine oU 7 fun K hK => ?_
    go_simp
    go_at_call 30
    (with_reducible refine (HFC.out _ bA).mono ?_)
    rintro e w4 ⟨a4,n4,rfl,_,_,hb4⟩
    have hbX:=bA.trans (hb4.mono bA.size)
    have gY:=kA hb4 gA
    have y0:=jA gY 0
    have y1:=jA gY 1
    have y2:=jA gY 2
    have y3:=jA gY 3
    have f0:=qB gY 0
    have f1:=qB gY 1
    have f2:=qB gY 2
    have f3:=qB gY 3
    refine hK.out _ _ (HS4.out _ hbX) fun hH => ?_
    clear hK K
    refine gU [8,9,10] ?_
    refine tU 12 fun K hK => ?_
    go_simp
    refine hK.out _ _ ?_
    clear hK K
    refine gU [13,300] ?_
    have HBF:=fA ((((hbX.setCell (p:=⟨W.heap.size,0,none⟩) (mA _) (.int .i64 x1)).setCell (p:=⟨W.heap.size,1,none⟩) (mA _) (.int .i64 x2)).setCell (p:=⟨W.heap.size,2,none⟩) (mA _) (.int .u32 x3)).setCell (p:=⟨W.heap.size,3,none⟩) (mA _) (.slice a4 hs.length n4))
    clear gY y0 y1 y2 y3 f0 f1 f2 f3 hH hbX hb4
    generalize ((((w4.setCell ⟨W.heap.size,0,none⟩ (.int .i64 x1)).setCell ⟨W.heap.size,1,none⟩ (.int .i64 x2)).setCell ⟨W.heap.size,2,none⟩ (.int .u32 x3)).setCell ⟨W.heap.size,3,none⟩ (.slice a4 hs.length n4))=WF at *
    have gXF:=kA HBF.out HGX.out
    cases q with
    | true =>
     obtain rfl:Kq=4:=HK.out
     have z2:=jA gXF 2
     have k2:=qB gXF 2
     have GXF:=fA gXF
     clear gXF
     go_wp2_with fail
     go_meet
     exact ⟨by simpa using zD (i:=2) GXF.out (.int .i64 4),(fD.of_below HBF.out).setCell (.inl (by simp)) 2 _⟩
    | false =>
     obtain rfl:Kq=3:=HK.out
     have GXF:=fA gXF
     clear gXF
     go_wp2_with fail
     go_meet
     exact ⟨GXF.out,fD.of_below HBF.out⟩
  case rest =>
   obtain ⟨gX5,hcX⟩:=hcut
   generalize wc=W5 at *
   obtain ⟨hB,hI,hX⟩:=HE.out
   have hX1:=HX1.out
   have hB5:Below w.heap.size w W5:=HBW.out.trans (hcX.to_below (fun x hx=>by rw [xB] at hx;omega) HBW.out.size)
   have HB5:=fA hB5
   have A5:=fA (HH.out.below hB5)
   have GB5:=fA (hcX.keep HGB.out (by simp;omega))
   have GI5:=fA (hcX.keep HGI.out (by simp;omega))
   have GX5:=fA gX5
   have HCB5:jC (bJ W5 A1 dd):=fA (dC.chg HCB.out hcX fun x hx q=>by rw [xB] at q;have:=HO1'.out x hx;omega)
   have hXW5:=eB gX5
   have HXW5:=fA hXW5
   have hKq:Kq=1\/Kq=2\/Kq=3\/Kq=4\/Kq=5\/Kq=6:=by rw [HK.out];cases q <;> simp
   have HAP:=fA (fun V (hb:Below W5.heap.size W5 V)=>zFJ L.nA L.cA L.nc L.cc c.ns c.cs 0 Kq a sm 0 V hKq (A5.out.below hb).rn.1 (A5.out.below hb).rc.in_)
   have HZO:=fA (zDn Kq a sm 0 HU.out.2.1 HU.out.2.2)
   generalize lT Kq a sm 0 c.ns c.cs=z at *
   obtain ⟨z1,z2,z3⟩:=z
   have HS7:jC (∀ V,Below W5.heap.size W5 V -> (fun V:uA=>V.cell? ⟨B,0,none⟩=yA (.pointer (yA ⟨C,0,none⟩))/\V.cell? ⟨C,0,none⟩=yA (.slice L.nA c.ns.length L.nc)/\V.cell? ⟨C,1,none⟩=yA (.slice L.cA c.cs.length L.cc)/\V.cell? ⟨C,2,none⟩=yA (.slice none 0 0)/\V.cell? ⟨X,0,none⟩=yA (.int .i64 0)/\V.cell? ⟨X,1,none⟩=yA (.int .i64 0)/\V.cell? ⟨X,2,none⟩=yA (.int .i64 Kq)/\V.cell? ⟨X,3,none⟩=yA (.int .i64 a)/\V.cell? ⟨X,4,none⟩=yA (.int .i64 sm)/\V.cell? ⟨X,5,none⟩=yA (.int .i64 0)) V):=fA fun V hb=>⟨jA (kA hb GB5.out) 0,jA (kA hb A5.out.blk) 0,jA (kA hb A5.out.blk) 1,jA (kA hb A5.out.blk) 2,jA (kA hb GX5.out) 0,jA (kA hb GX5.out) 1,jA (kA hb GX5.out) 2,jA (kA hb GX5.out) 3,jA (kA hb GX5.out) 4,jA (kA hb GX5.out) 5⟩
   have b0:Below W5.heap.size W5 W5.drew:=(xC W5).drew
   have bA:Below W5.heap.size W5 (W5.alloc (.cells #[.slice none 0 0,.slice none 0 0,.slice none 0 0] 51)).drew:=(wA W5 (.cells #[.slice none 0 0,.slice none 0 0,.slice none 0 0] 51)).drew
   have gA:=iB (rB W5 (.cells #[.slice none 0 0,.slice none 0 0,.slice none 0 0] 51))
   have HNE:jC (∀ (V w4 w5:uA) (A:Option Addr) (a:Nat) (xs:List Nd) (B:Option Addr) (b:Nat) (ys:List Ch),Below W5.heap.size W5 V -> rQ (fun x=>V.heap.size<=x) qH w4 A a xs -> zBU (fun x=>V.heap.size<=x) w4 B b ys -> (rQ (fun x=>W5.heap.size<=x) qH w4 A a xs/\zBU (fun x=>W5.heap.size<=x) w4 B b ys)/\∀ {o},V.heap[W5.heap.size]?=yA o -> fD [W5.heap.size] w4 w5 -> rQ (fun x=>W5.heap.size<=x) qH w5 A a xs/\zBU (fun x=>W5.heap.size<=x) w5 B b ys):=fA fun V w4 w5 A a xs B b ys hb h1 h2=>⟨⟨h1.mono fun x hx=>pA hb.size hx,h2.mono fun x hx=>pA hb.size hx⟩,fun hV hc=>by
    have hlt:=eB hV
    exact ⟨(rQ.chg h1 hc fun x hx q=>by rw [xB] at q;omega).mono fun x hx=>pA hb.size hx,(zBU.chg h2 hc fun x hx q=>by rw [xB] at q;omega).mono fun x hx=>pA hb.size hx⟩⟩
   clear gX5 hcX hB hI hX hB5 hX1 hXW5 hKq HS4 HFC HGX HA HGB HGI HCB
   refine (by assumption:∀ (a:Act) (w:uA),_ -> _) _ _ ?_
   go_step
   go_cut [10,11] (fun m n wx=>∃ Y A4 a4 B4 b4,m=.pointer (yA ⟨Y,0,none⟩)/\n=.int .i64 z3/\wx.heap[Y]?=yA (.cells #[.slice A4 z1.length a4,.slice B4 z2.length b4,.slice none 0 0] 51)/\W5.heap.size<=Y/\Below W5.heap.size W5 wx/\rQ (fun x=>W5.heap.size<=x) qH wx A4 a4 z1/\zBU (fun x=>W5.heap.size<=x) wx B4 b4 z2)
   case first =>
    go_wp2_with fail
    refine iC (S:=fun V:uA=>V.cell? ⟨B,0,none⟩=yA (.pointer (yA ⟨C,0,none⟩))/\V.cell? ⟨C,0,none⟩=yA (.slice L.nA c.ns.length L.nc)/\V.cell? ⟨C,1,none⟩=yA (.slice L.cA c.cs.length L.cc)/\V.cell? ⟨C,2,none⟩=yA (.slice none 0 0)/\V.cell? ⟨X,0,none⟩=yA (.int .i64 0)/\V.cell? ⟨X,1,none⟩=yA (.int .i64 0)/\V.cell? ⟨X,2,none⟩=yA (.int .i64 Kq)/\V.cell? ⟨X,3,none⟩=yA (.int .i64 a)/\V.cell? ⟨X,4,none⟩=yA (.int .i64 sm)/\V.cell? ⟨X,5,none⟩=yA (.int .i64 0)) [10] (HS7.out _ b0) fun hH => ?_
    refine gU [100,1,2,103,104] ?_
    refine bU 5 9 (fun K hK => ?_) (fun K hK => ?_)
    ·go_simp
     go_at_call 55
     (with_reducible refine (HAP.out _ b0).mono ?_)
     rintro e w6 ⟨A4,a4,B4,b4,rfl,hA4,hB4,hb6⟩
     have hbX:=b0.trans (hb6.mono b0.size)
     have HRW:=fA (fun w5=>HNE.out _ _ w5 _ _ _ _ _ _ b0 hA4 hB4)
     clear hA4 hB4
     refine hK.out _ _ (HS7.out _ hbX) fun hH => ?_
     clear hK K
     refine gU [6,7,8] ?_
     refine oU 9 fun K hK => ?_
     go_simp
     refine hK.out _ _ (HS7.out _ (hbX.trans ((wA w6 (.cells #[.slice none 0 0,.slice none 0 0,.slice none 0 0] 51)).mono hbX.size))) fun hH => ?_
     clear hK K
     refine tU 10 fun K hK => ?_
     have gY:=rB w6 (.cells #[.slice none 0 0,.slice none 0 0,.slice none 0 0] 51)
     have y0:=jA gY 0
     have y1:=jA gY 1
     have y2:=jA gY 2
     have f0:=qB gY 0
     have f1:=qB gY 1
     have f2:=qB gY 2
     go_simp
     refine hK.out _ _ ?_
     clear hK K
     refine gU [11,300] ?_
     have HRL:=fA (show (w6.alloc (.cells #[.slice A4 z1.length a4,.slice B4 z2.length b4,.slice none 0 0] 51)).heap[w6.heap.size]?=yA (.cells #[.slice A4 z1.length a4,.slice B4 z2.length b4,.slice none 0 0] 51)/\W5.heap.size<=w6.heap.size/\Below W5.heap.size W5 (w6.alloc (.cells #[.slice A4 z1.length a4,.slice B4 z2.length b4,.slice none 0 0] 51))/\rQ (fun x=>W5.heap.size<=x) qH (w6.alloc (.cells #[.slice A4 z1.length a4,.slice B4 z2.length b4,.slice none 0 0] 51)) A4 a4 z1/\zBU (fun x=>W5.heap.size<=x) (w6.alloc (.cells #[.slice A4 z1.length a4,.slice B4 z2.length b4,.slice none 0 0] 51)) B4 b4 z2 from ⟨rB _ _,hbX.size,hbX.trans ((wA w6 _).mono hbX.size),(HRW.out w6).1.1.below (wA w6 _),(HRW.out w6).1.2.below (wA w6 _)⟩)
     clear gY y0 y1 y2 f0 f1 f2 hH HRW
     generalize (w6.alloc (.cells #[.slice A4 z1.length a4,.slice B4 z2.length b4,.slice none 0 0] 51))=WF at *
     go_wp2_with fail
     go_meet
     exact ⟨w6.heap.size,A4,a4,B4,b4,rfl,rfl,HRL.out⟩
    ·go_simp
     refine hK.out _ _ (HS7.out _ bA) fun hH => ?_
     clear hK K
     refine oU 5 fun K hK => ?_
     go_simp
     go_at_call 55
     (with_reducible refine (HAP.out _ bA).mono ?_)
     rintro e w6 ⟨A4,a4,B4,b4,rfl,hA4,hB4,hb6⟩
     have hbX:=bA.trans (hb6.mono bA.size)
     have HRW:=fA (fun w5=>HNE.out _ _ w5 _ _ _ _ _ _ bA hA4 hB4)
     clear hA4 hB4
     have gY:=kA hb6 gA
     have y0:=jA gY 0
     have y1:=jA gY 1
     have y2:=jA gY 2
     have f0:=qB gY 0
     have f1:=qB gY 1
     have f2:=qB gY 2
     refine hK.out _ _ (HS7.out _ hbX) fun hH => ?_
     clear hK K
     refine gU [6,7,8] ?_
     refine tU 10 fun K hK => ?_
     go_simp
     refine hK.out _ _ ?_
     clear hK K
     refine gU [11,300] ?_
     have HRL:=fA (show (((w6.setCell ⟨W5.heap.size,0,none⟩ (.slice A4 z1.length a4)).setCell ⟨W5.heap.size,1,none⟩ (.slice B4 z2.length b4)).setCell ⟨W5.heap.size,2,none⟩ (.slice none 0 0)).heap[W5.heap.size]?=yA (.cells #[.slice A4 z1.length a4,.slice B4 z2.length b4,.slice none 0 0] 51)/\W5.heap.size<=W5.heap.size/\Below W5.heap.size W5 (((w6.setCell ⟨W5.heap.size,0,none⟩ (.slice A4 z1.length a4)).setCell ⟨W5.heap.size,1,none⟩ (.slice B4 z2.length b4)).setCell ⟨W5.heap.size,2,none⟩ (.slice none 0 0))/\rQ (fun x=>W5.heap.size<=x) qH (((w6.setCell ⟨W5.heap.size,0,none⟩ (.slice A4 z1.length a4)).setCell ⟨W5.heap.size,1,none⟩ (.slice B4 z2.length b4)).setCell ⟨W5.heap.size,2,none⟩ (.slice none 0 0)) A4 a4 z1/\zBU (fun x=>W5.heap.size<=x) (((w6.setCell ⟨W5.heap.size,0,none⟩ (.slice A4 z1.length a4)).setCell ⟨W5.heap.size,1,none⟩ (.slice B4 z2.length b4)).setCell ⟨W5.heap.size,2,none⟩ (.slice none 0 0)) B4 b4 z2 from ⟨xI gY (.slice A4 z1.length a4) (.slice B4 z2.length b4) (.slice none 0 0),mA _,(((hbX.setCell (p:=⟨W5.heap.size,0,none⟩) (mA _) _).setCell (p:=⟨W5.heap.size,1,none⟩) (mA _) _).setCell (p:=⟨W5.heap.size,2,none⟩) (mA _) _),(HRW.out _).2 gA ((((fD.refl [W5.heap.size] w6).setCell (.inl (by simp)) 0 _).setCell (.inl (by simp)) 1 _).setCell (.inl (by simp)) 2 _)⟩)
     clear gY y0 y1 y2 f0 f1 f2 hH HRW
     generalize (((w6.setCell ⟨W5.heap.size,0,none⟩ (.slice A4 z1.length a4)).setCell ⟨W5.heap.size,1,none⟩ (.slice B4 z2.length b4)).setCell ⟨W5.heap.size,2,none⟩ (.slice none 0 0))=WF at *
     go_wp2_with fail
     go_meet
     exact ⟨W5.heap.size,A4,a4,B4,b4,rfl,rfl,HRL.out⟩
   case rest =>
    obtain ⟨Y,A4,a4,B4,b4,rfl,rfl,gY,hY,hb6,hA4,hB4⟩:=hcut
    generalize wc=W6 at *
    have hs56:=hb6.size
    have HB6:=fA (HB5.out.trans (hb6.mono HB5.out.size))
    have A6:=fA (A5.out.below hb6)
    have GB6:=fA (kA hb6 GB5.out)
    have GI6:=fA (kA hb6 GI5.out)
    have GY6:=fA gY
    have HCB6:=fA (bJ.below HCB5.out hb6)
    have HA4:=fA hA4
    have HB4:=fA hB4
    have HYW:=fA hY
    have HZO1:=HZO.out.1
    have HZO2:=HZO.out.2
    dsimp only at HZO1 HZO2
    clear gY hY hb6 hA4 hB4 HNE HS7 HAP gA b0 bA HZO
    by_cases hz:z3<0
    ·have HZ2:jC (c.write a b=(c,wrap64 (-z3))):=fA (by rw [HZK.out];unfold Cl.wrZ;rw [if_pos hz])
     go_wp2
     go_ret
     rw [HZ2.out]
     exact ⟨rfl,L,rC.refl HH.out HB6.out,fun m h=>h.mono (Nat.le_add_right _ _)⟩
    have HZ3:jC (c.write a b=Cl.wrB a z3 z1 z2 (c.wrTakes a z3 sm dd (c.wrIds z1))):=fA (by rw [HZK.out];unfold Cl.wrZ;rw [if_neg hz])
    have HLV:=fA (fun V (hb:Below W6.heap.size W6 V)=>zBZ L.bA L.bc c.bs c.t c.r.1 V (A6.out.below hb).rb.1)
    have hll:(jM c.bs c.t c.r.1).length<=1000000:=pA (zDM _ _ _) A6.out.rb.1.max
    have HDF:=fA (fun (w7:uA) A7 c7 (hb:Below W6.drew.heap.size W6.drew w7) (own7:w7.ownsRow W6.drew.heap.size 3 1 (.slice A7 (jM c.bs c.t c.r.1).length c7) (jM c.bs c.t c.r.1).length (flat kG (jM c.bs c.t c.r.1)))=>zFO A7 c7 (jM c.bs c.t c.r.1) W6.drew.heap.size 56 #[.pointer (yA ⟨B,0,none⟩)] (fun _ _=>rfl) (fun id => !c.upP id) w7 hb.size own7 hll (fun x hx V hV=>by
     have hb':Below W6.heap.size W6 V:=((xC W6).drew.trans hb).trans hV
     exact zGR R C L c B x V (A6.out.below hb') (jA (kA hb' GB6.out) 0) (zEL _ _ _ x hx)))
    have HAL2:jC (nE (fun id => !c.upP id) (jM c.bs c.t c.r.1)=c.wrAlive):=fA rfl
    have HS11:jC (∀ V,Below W6.heap.size W6 V -> (fun V:uA=>V.cell? ⟨B,0,none⟩=yA (.pointer (yA ⟨C,0,none⟩))/\V.cell? ⟨C,3,none⟩=yA (.slice L.bA c.bs.length L.bc)/\V.cell? ⟨C,12,none⟩=yA (.int .i64 c.t)/\V.cell? ⟨C,6,none⟩=yA (.int .i64 c.r.1)) V):=fA fun V hb=>⟨jA (kA hb GB6.out) 0,jA (kA hb A6.out.blk) 3,jA (kA hb A6.out.blk) 12,jA (kA hb A6.out.blk) 6⟩
    go_wp2_with fail
    refine iC (S:=fun V:uA=>V.cell? ⟨B,0,none⟩=yA (.pointer (yA ⟨C,0,none⟩))/\V.cell? ⟨C,3,none⟩=yA (.slice L.bA c.bs.length L.bc)/\V.cell? ⟨C,12,none⟩=yA (.int .i64 c.t)/\V.cell? ⟨C,6,none⟩=yA (.int .i64 c.r.1)) [] (HS11.out _ (xC W6).drew) fun hH => ?_
    refine gU [100,1,2,3,104,105,6,7,108,109,10,11,12,113,15] ?_
    refine oU 14 fun K hK => ?_
    go_simp
    go_at_call 58
    (with_reducible refine (HLV.out _ (xC W6).drew).mono ?_)
    rintro e w7 ⟨A7,c7,rfl,own7,hb7⟩
    have HDF7:=fA (HDF.out w7 A7 c7 hb7 own7)
    refine hK.out _ _ (HS11.out _ ((xC W6).drew.trans hb7)) fun hH => ?_
    clear hK K
    refine oU 16 fun K hK => ?_
    go_simp
    go_at_call 57
    (with_reducible refine HDF7.out.mono ?_)
    rintro e w8 ⟨rfl,own8,hb8⟩
    refine hK.out _ _ (HS11.out _ (((xC W6).drew.trans hb7).trans hb8)) fun hH => ?_
    clear hK K
    refine gU [17,300] ?_
    clear hH
    rw [HAL2.out] at own8
    have hb68:Below W6.heap.size W6 w8:=((xC W6).drew.trans hb7).trans hb8
    have halw:=zKS c
    have hal:c.wrAlive.length<=1000000:=pA (wJ _ _) hll
    have HZI:jC (c.wrIds z1=gZ z1 c.wrAlive c.r.2.2.2.1.toNat (gJ c.cs z1) []):=fA rfl
    obtain ⟨N,hN⟩:∃ N:Nat,c.r.2.2.2.1=(N:Int):=⟨c.r.2.2.2.1.toNat,by have:=(zFd HU.out.1).2;omega⟩
    have hN8:N<=8:=by have:=(zFd HU.out.1).2;omega
    have HMI:jC ((∀ x ∈ c.wrIds z1,x ∈ c.wrAlive)/\(c.wrIds z1).length<=8):=fA (by
     have:=zIp z1 c.wrAlive c.r.2.2.2.1.toNat (gJ c.cs z1) [] (fun x hx=>by cases hx)
     rw [<- HZI.out] at this
     refine ⟨this.1,pA this.2 ?_⟩
     rw [hN]
     simpa using hN8)
    rw [show c.r.2.2.2.1.toNat=N by rw [hN];rfl] at HZI
    have HAV:=fA halw
    rw [HAL2.out]
    generalize c.wrAlive=al at *
    have HRA:=fA (yB.of_own own8 hal)
    have HR4:=fA (fun V (hb:Below W6.heap.size W6 V)=>HA4.out.1.below hb)
    have HLD:=fA (fun V (hb:Below W6.heap.size W6 V)=>zCA L.cA L.cc c.cs A4 a4 z1 V (A6.out.below hb).rc.in_ (HR4.out V hb))
    have hlo:=uZ c.cs z1
    have hcl:=zBu HU.out.2.2
    have hnl:=zQC HZO1
    have HMN:=fA (fun V A9 c9 (hb:Below w8.heap.size w8 V) (h9:yB zV V A9 c9 (gJ c.cs z1))=>zOB A4 A7 A9 a4 c7 c9 z1 al (gJ c.cs z1) N V (HR4.out V (hb68.trans (hb.mono hb68.size))) (HRA.out.below hb) h9 HZO1 (fun x hx=>by have:=hlo.1 x hx;omega) (by omega) (by omega))
    have hld:(gJ c.cs z1).length<=1000000:=by omega
    have HS13:jC (∀ V,Below w8.heap.size w8 V -> (fun V:uA=>V.cell? ⟨Y,0,none⟩=yA (.slice A4 z1.length a4)/\V.cell? ⟨B,0,none⟩=yA (.pointer (yA ⟨C,0,none⟩))/\V.cell? ⟨C,1,none⟩=yA (.slice L.cA c.cs.length L.cc)/\V.cell? ⟨C,9,none⟩=yA (.int .i64 (N:Int))) V):=fA fun V hb=>by
     have hb':=hb68.trans (hb.mono hb68.size)
     exact ⟨jA (kA hb' GY6.out) 0,jA (kA hb' GB6.out) 0,jA (kA hb' A6.out.blk) 1,by have:=jA (kA hb' A6.out.blk) 9;simp only [hN] at this;exact this⟩
    rw [<- HZI.out] at HMN
    have HB68:=fA hb68
    clear hlo hcl hnl halw HS11 HDF HLV hll own8 hb7 hb8 hN
    go_wp2_with fail
    refine iC (S:=fun V:uA=>V.cell? ⟨Y,0,none⟩=yA (.slice A4 z1.length a4)/\V.cell? ⟨B,0,none⟩=yA (.pointer (yA ⟨C,0,none⟩))/\V.cell? ⟨C,1,none⟩=yA (.slice L.cA c.cs.length L.cc)/\V.cell? ⟨C,9,none⟩=yA (.int .i64 (N:Int))) [] (HS13.out _ (xC w8).drew) fun hH => ?_
    refine gU [0,101,2,103,4,5,6,107,8,109,111,12,13,14,115,18] ?_
    refine oU 10 fun K hK => ?_
    go_simp
    go_at_call 60
    (with_reducible refine (HLD.out _ (HB68.out.trans ((xC w8).drew.mono HB68.out.size))).mono ?_)
    rintro e w9 ⟨A9,c9,rfl,own9,hb9⟩
    have hb89:=(xC w8).drew.trans hb9
    have HMN9:=fA (HMN.out w9 A9 c9 hb89 (yB.of_own own9 hld))
    refine hK.out _ _ (HS13.out _ hb89) fun hH => ?_
    clear hK K
    refine oU 16 fun K hK => ?_
    go_simp
    go_at_call 59
    (with_reducible refine HMN9.out.mono ?_)
    rintro e w10 ⟨A10,c10,rfl,own10,hb10⟩
    have hb810:=hb89.trans (hb10.mono hb89.size)
    refine hK.out _ _ (HS13.out _ hb810) fun hH => ?_
    clear hK K
    refine gU [17,300] ?_
    clear hH
    have hB10:=HB68.out.trans (hb810.mono HB68.out.size)
    have HB10:=fA (HB6.out.trans (hB10.mono HB6.out.size))
    have A10c:=fA (A6.out.below hB10)
    have GB10:=fA (kA hB10 GB6.out)
    have GI10:=fA (kA hB10 GI6.out)
    have GY10:=fA (kA hB10 GY6.out)
    have HCB10:=fA (bJ.below HCB6.out hB10)
    have HA10:=fA (HA4.out.below hB10)
    have HB410:=fA (HB4.out.below hB10)
    obtain ⟨hB,hI,hX⟩:=HE.out
    have hX1:=HX1.out
    have hXW5:=HXW5.out
    have hYW:=HYW.out
    have hs610:=hB10.size
    have hs5w:=HB5.out.size
    have hs9:=hb89.size
    have hs68:=HB68.out.size
    have hil:(c.wrIds z1).length<=8:=HMI.out.2
    have HRI:=fA (yB.of_own own10 (by omega))
    have HOI:jC (∀ x ∈ zB A10,w.heap.size<=x/\x<w10.heap.size):=fA fun x hx=>⟨by have:=(qC own10 x hx).1;omega,(qC own10 x hx).2⟩
    have HO1W:jC (∀ x ∈ zB A1,w.heap.size<=x/\x<w10.heap.size):=fA fun x hx=>by have:=HO1'.out x hx;omega
    have HBI:jC (w.heap.size<=B/\w.heap.size<=I/\w.heap.size<=Y):=fA (by omega)
    have HSZ:jC (w.heap.size<=w10.heap.size):=fA (by omega)
    have HWI:=fA (fun l=>zCS.all HO.out z3 sm ha (show dd.length<=64 by rw [HDL.out];decide) l)
    have HIN:jC (∀ x ∈ c.wrIds z1,Wf x/\∃ v,c.h x=yA v):=fA fun x hx=>HAV.out x (HMI.out.1 x hx)
    have HTL:=fA (fun l=>zJf c a z3 sm dd l)
    clear hB10 hB hI hX hX1 hXW5 hYW own10 hb810 hb10 hb9 own9 hb89 HMN9 HMN HLD HR4 HRA HS13 HZI hN8 hld hal hs56 hs610 hs5w hs9 hs68
    generalize c.wrIds z1=ids at *
    go_wp2_with fail
    go_loopw [14,93] (fun v i wr=>∃ (k:Nat) (L':CL) (A2:Option Addr) (n2:Nat),k<=ids.length/\i=.int .i64 (k:Int)/\v=.slice A2 (c.wrTakes a z3 sm dd (ids.take k)).2.length n2/\jC (rC (fun x=>R x/\x ∉ zB A2) C L L' (c.wrTakes a z3 sm dd (ids.take k)).1 w10 wr/\(∀ m,L.ok m -> L'.ok (m+2 * k))/\wr.ownsRow w10.heap.size 3 1 (.slice A2 (c.wrTakes a z3 sm dd (ids.take k)).2.length n2) (c.wrTakes a z3 sm dd (ids.take k)).2.length (flat kG (c.wrTakes a z3 sm dd (ids.take k)).2)/\∀ x ∈ zB A2,¬ L'.own C x)) (fun _ i _=>ids.length - (intOf i).toNat)
    case atStart=>exact ⟨0,L,none,0,by omega,rfl,rfl,fA ⟨rC.refl (A10c.out.monoR fun x _ hx=>⟨hx,fun q=>by cases q⟩) (xC _),fun _ h=>h,World.ownsRow_nil _ _ _ _,fun x hx=>by cases hx⟩⟩
    case round =>
     obtain ⟨k,L',A2,n2,hk,rfl,rfl,HS⟩:=hrel
     have hk0:(0:Int)<=(k:Int):=by omega
     have hwr:=HS.out.1.chg.size
     have HNL':jC (∀ x,w.heap.size<=x -> x<w10.heap.size -> ¬ L'.own C x):=fA fun x h1 h2 q=>(HS.out.1.fr x q).elim (HNX.out x h1) (fun p=>by omega)
     have hpl:(c.wrTakes a z3 sm dd (ids.take k)).2.length<=8:=by
      have:=HTL.out (ids.take k)
      rw [List.length_take] at this
      omega
     by_cases hlt:k<ids.length
     ·have hk1:(k:Int)<(ids.length:Int):=by omega
      have HSU:=fA (zHt c a z3 sm dd ids hlt)
      have hidk:=HIN.out _ (List.getElem_mem hlt)
      have HW:=fA (HWI.out (ids.take k))
      obtain ⟨b3,off,rfl,blt,d0⟩:=uJ (HS.out.1.row HRI.out fun x hx=>HNX.out x (HOI.out x hx).1) hlt
      generalize (ids[k]'hlt)=id at *
      obtain ⟨v,hv⟩:=HW.out.dom id hidk.2
      generalize c.wrTakes a z3 sm dd (ids.take k)=p at *
      obtain ⟨pc,pt⟩:=p
      dsimp only at hv hpl HS
      have AW:=fA HS.out.1.at_
      have hfn:=AW.out.hn id
      cases hh:L'.hb id with
      | none=>rw [hfn.1 hh] at hv;cases hv
      | some y =>
       obtain ⟨H,s,S⟩:=y
       have hlk:=(AW.out.below (xC wr).drew).mp.look hidk.1
       rw [hh] at hlk
       simp only [hkey] at hlk
       have HVO:=fA (HW.out.sv id v hv)
       have HA2:=fA (fun x hx=>qC HS.out.2.2.1 x hx)
       have HHV:=fA (gG hh hv)
       have hCBd:bJ wr.drew A1 dd:=dC.drew (HS.out.1.cells HCB10.out fun x hx=>HNX.out x (HO1W.out x hx).1)
       have hRd:∀ x,wr.drew.heap.size<=x -> R x/\x ∉ zB A2:=fun x hx=>⟨HR.out x (by have:wr.heap.size<=x:=hx;have:=HSZ.out;omega),fun q=>by have:=(HA2.out x q).2;have:wr.heap.size<=x:=hx;omega⟩
       have hmm:m+2 * k+1<1000000:=by omega
       have hTK:=zDH (fun x=>R x/\x ∉ zB A2) C L' pc id H s S v a z3 sm A1 c1 dd wr.drew (AW.out.below (xC wr).drew) hh hv HVO.out hRd ha (m+2 * k) (HS.out.2.1 m HM.out) hmm hCBd (fun e=>absurd (HNL.out e) (by decide)) (pA (Nat.le_of_eq HDL.out) (by decide)) (fun x hx=>HNL'.out x (HO1W.out x hx).1 (HO1W.out x hx).2)
       rw [HDL.out] at hTK
       have HTK:=fA hTK
       clear hTK hCBd hRd hmm
       have HP:jC (c.wrTakes a z3 sm dd (ids.take (k+1))=({ pc with h:=eH pc.h id (yA ⟨(v.s.take a z3 sm dd).1,v.up⟩) },if (v.s.take a z3 sm dd).2 then pt ++ [id] else pt)):=fA (by
        rw [HSU.out]
        unfold Cl.wrStep
        dsimp only
        rw [hv]
        rfl)
       have HS16:jC ((fun V:uA=>V.cell? ⟨B,0,none⟩=yA (.pointer (yA ⟨C,0,none⟩))/\V.cell? ⟨C,13,none⟩=yA (.map (yA L'.M))/\V.cell? ⟨I,1,none⟩=yA (.int .i64 a)/\(eE 46 (.map (yA L'.M)) (.int .i64 id) false).run prog V=.ok (.pointer (yA ⟨H,0,none⟩)) V) wr.drew):=fA ⟨jA (iB (HS.out.1.blk GB10.out (HNX.out B HBI.out.1))) 0,jA (iB AW.out.blk) 13,jA (iB (HS.out.1.blk GI10.out (HNX.out I HBI.out.2.1))) 1,hlk⟩
       generalize v.s.take a z3 sm dd=y at *
       obtain ⟨v6,qq⟩:=y
       dsimp only at HTK HP
       clear hlk hfn hh hv HSU
       go_wp2_with fail
       refine iC (S:=fun V:uA=>V.cell? ⟨B,0,none⟩=yA (.pointer (yA ⟨C,0,none⟩))/\V.cell? ⟨C,13,none⟩=yA (.map (yA L'.M))/\V.cell? ⟨I,1,none⟩=yA (.int .i64 a)/\(eE 46 (.map (yA L'.M)) (.int .i64 id) false).run prog V=.ok (.pointer (yA ⟨H,0,none⟩)) V) [11] HS16.out fun hH => ?_
       refine gU [100,1,2,103,4,105,6,107,8,9,10] ?_
       refine tU 11 fun K hK => ?_
       go_simp
       go_at_call 61
       (with_reducible refine HTK.out.mono ?_)
       rintro e w11 ⟨rfl,L11,st11,hq11⟩
       refine hK.out _ _ ?_
       clear hK K
       refine gU [300] ?_
       clear hH
       have HST11:=fA (HS.out.1.trans ((rC.refl AW.out (xC wr).drew).trans st11))
       have HOK11:jC (∀ m,L.ok m -> L11.ok (m+2 * (k+1))):=fA fun m h=>by
        have:=hq11 _ (HS.out.2.1 m h)
        rwa [show m+2 * k+2=m+2 * (k+1) by omega] at this
       have HN11:jC (∀ x ∈ zB A2,¬ L11.own C x):=fA fun x hx q=>(st11.fr x q).elim (HS.out.2.2.2 x hx) (fun p=>by have:=(HA2.out x hx).2;have:wr.heap.size<=x:=p;omega)
       have HOW11:=fA (st11.own (sI HS.out.2.2.1) HS.out.2.2.2)
       have HB2:=fA (fun x hx=>(HA2.out x hx).1)
       have hs11:=HST11.out.chg.size
       clear st11 hq11 HS16 HTK
       cases qq with
       | false =>
        have HP2:jC (c.wrTakes a z3 sm dd (ids.take (k+1))=({ pc with h:=eH pc.h id (yA ⟨v6,v.up⟩) },pt)):=fA (by rw [HP.out];rfl)
        go_wp2
        go_roundw
        case rel=>exact ⟨k+1,L11,A2,n2,by omega,by go_num,by rw [HP2.out],fA (by rw [HP2.out];exact ⟨HST11.out,HOK11.out,HOW11.out,HN11.out⟩)⟩
        case measure=>simp [intOf];omega
       | true =>
        have HP2:jC (c.wrTakes a z3 sm dd (ids.take (k+1))=({ pc with h:=eH pc.h id (yA ⟨v6,v.up⟩) },pt ++ [id])):=fA (by rw [HP.out];rfl)
        go_wp2_with (at_builtin;refine yC rfl (.tmp 109) (.tmp 111) rfl tN w10.heap.size (.slice A2 pt.length n2) pt.length (flat kG pt) (by rfl) (jB HOW11.out (wA w11 _)) (yA ⟨w11.heap.size,0,none⟩) 1 1 [.int .i64 id] (by rfl) rfl (dC.new w11 _ _) (by simp [Value.oneCell']) (by unfold maxLen;omega) (by omega) (pA hs11 (wA w11 _).size) (fun h=>by cases h) ?_;intro A5 n5 w13 own13 hg13 hat13;have C13:=tE hg13;have at13:=wF hat13)
        go_roundw
        case rel =>
         have hb12:=wA w11 (.cells #[id] 3)
         have HL:rC (fun x=>R x/\x ∉ zB A5) C L L11 { pc with h:=eH pc.h id (yA ⟨v6,v.up⟩) } w10 w13:=rC.grown (HST11.out.trans (rC.refl HST11.out.at_ hb12)) C13 at13 HN11.out HB2.out
         have hl1:(pt ++ [id]).length=pt.length+1:=by simp
         refine ⟨k+1,L11,A5,n5,by omega,by go_num,by rw [HP2.out,hl1],fA ?_⟩
         rw [HP2.out]
         refine ⟨HL,HOK11.out,?_,fun x hx=>(at13 x hx).elim (HN11.out x) (fun p q=>by have:=HST11.out.at_.own_lt q;have:=hb12.size;omega)⟩
         dsimp only
         rw [hl1,uD]
         exact own13
        case measure=>simp [intOf];omega
     ·have hk1:¬ (k:Int)<(ids.length:Int):=by omega
      have hke:k=ids.length:=by omega
      have HZ4:jC (c.write a b=Cl.wrB a z3 z1 z2 (c.wrTakes a z3 sm dd (ids.take k))):=fA (by rw [HZ3.out,hke,sJ])
      generalize c.wrTakes a z3 sm dd (ids.take k)=p at *
      obtain ⟨pc,pt⟩:=p
      dsimp only at hpl HS
      have HSR:=fA (HS.out.1.monoR (R':=R) fun x _ hx=>hx.1)
      have HSW:=fA ((rC.refl HH.out HB10.out).trans HSR.out)
      have HOKT:jC (∀ m,L.ok m -> L'.ok (m+16)):=fA fun m h=>(HS.out.2.1 m h).mono (by omega)
      by_cases h0:pt.length=0
      ·have HZ5:jC (c.write a b=(pc,7)):=fA (by rw [HZ4.out];unfold Cl.wrB;rw [if_pos h0])
       have h0i:((pt.length:Int) == 0)=true:=by simp [h0]
       clear hke
       go_wp2
       go_ret
       rw [HZ5.out]
       exact ⟨rfl,L',HSW.out,fun m h=>(HOKT.out m h).mono (by omega)⟩
      have HZ5:jC (c.write a b=(Cl.wrC a z3 { pc with ns:=z1,cs:=z2 } pt,0)):=fA (by rw [HZ4.out];unfold Cl.wrB;rw [if_neg h0])
      have h0i:((pt.length:Int) == 0)=false:=by rw [beq_eq_false_iff_ne];omega
      have h0j:¬ (pt.length:Int)=0:=by omega
      have HAr:=fA HSR.out.at_
      have GYr:=HSR.out.blk GY10.out (HNX.out Y HBI.out.2.2)
      have GBr:=HSR.out.blk GB10.out (HNX.out B HBI.out.1)
      have GIr:=HSR.out.blk GI10.out (HNX.out I HBI.out.2.1)
      have y0:=jA GYr 0
      have y1:=jA GYr 1
      have y2:=jA GYr 2
      have gCr:=HAr.out.blk
      have q0:=jA gCr 0
      have q1:=jA gCr 1
      have q2:=jA gCr 2
      have f0:=qB gCr 0
      have f1:=qB gCr 1
      have f2:=qB gCr 2
      have bB:=jA GBr 0
      have hC:fD [C] wr (((wr.setCell ⟨C,0,none⟩ (.slice A4 z1.length a4)).setCell ⟨C,1,none⟩ (.slice B4 z2.length b4)).setCell ⟨C,2,none⟩ (.slice none 0 0)):=(((fD.refl _ wr).setCell (.inl (by simp)) 0 _).setCell (.inl (by simp)) 1 _).setCell (.inl (by simp)) 2 _
      have hCo:∀ x,¬ L'.own C x -> x ∉ [C]:=fun x hx q=>by rw [xB] at q;exact hx (.inl q)
      have gF:(((wr.setCell ⟨C,0,none⟩ (.slice A4 z1.length a4)).setCell ⟨C,1,none⟩ (.slice B4 z2.length b4)).setCell ⟨C,2,none⟩ (.slice none 0 0)).heap[C]?=yA (zNm (.slice A4 z1.length a4) (.slice B4 z2.length b4) (.slice L'.bA pc.bs.length L'.bc) (.slice L'.lA pc.ls.length L'.lc) (.slice L'.dA pc.ds.length L'.dc) pc.r pc.t L'.M (.slice L'.eA pc.net.length L'.ec)):=by simpa using zD (i:=2) (zD (i:=1) (zD (i:=0) gCr (.slice A4 z1.length a4)) (.slice B4 z2.length b4)) (.slice none 0 0)
      obtain ⟨T,hT,hCT⟩:=HSR.out.chg.list
      have h5w:=HB5.out.size
      have hrT:∀ x:Nat,W5.heap.size<=x/\x<w10.heap.size -> x ∉ T:=fun x hx q=>HNX.out x (by omega) (hT x q).1
      have hrC:∀ x:Nat,W5.heap.size<=x/\x<w10.heap.size -> x ∉ [C]:=fun x hx=>hCo x (HNL'.out x (by omega) hx.2)
      have hrm:∀ x:Nat,W5.heap.size<=x/\x<w10.heap.size -> L'.rd R (((wr.setCell ⟨C,0,none⟩ (.slice A4 z1.length a4)).setCell ⟨C,1,none⟩ (.slice B4 z2.length b4)).setCell ⟨C,2,none⟩ (.slice none 0 0)) C x:=fun x hx=>⟨HR.out x (by omega),HNL'.out x (by omega) hx.2,by have:=hC.size;omega⟩
      have rn:vS (L'.rd R (((wr.setCell ⟨C,0,none⟩ (.slice A4 z1.length a4)).setCell ⟨C,1,none⟩ (.slice B4 z2.length b4)).setCell ⟨C,2,none⟩ (.slice none 0 0)) C) qH (((wr.setCell ⟨C,0,none⟩ (.slice A4 z1.length a4)).setCell ⟨C,1,none⟩ (.slice B4 z2.length b4)).setCell ⟨C,2,none⟩ (.slice none 0 0)) A4 a4 z1:=((vS.chg HA10.out hCT hrT).chg hC hrC).mono hrm
      have rc:zCj (L'.rd R (((wr.setCell ⟨C,0,none⟩ (.slice A4 z1.length a4)).setCell ⟨C,1,none⟩ (.slice B4 z2.length b4)).setCell ⟨C,2,none⟩ (.slice none 0 0)) C) (((wr.setCell ⟨C,0,none⟩ (.slice A4 z1.length a4)).setCell ⟨C,1,none⟩ (.slice B4 z2.length b4)).setCell ⟨C,2,none⟩ (.slice none 0 0)) B4 b4 z2:=((zCj.chg HB410.out hCT hrT).chg hC hrC).mono hrm
      have HSM:=fA (HAr.out.upd (L':={ L' with nA:=A4,nc:=a4,cA:=B4,cc:=b4 }) (c':={ pc with ns:=z1,cs:=z2 }) hC rfl rfl rfl rfl rfl rfl rfl gF rn rc (HAr.out.kb hC (wP C L')) (HAr.out.kl hC (wP C L')) (HAr.out.kd hC (wP C L')))
      have HRT:=fA ((yB.of_own HS.out.2.2.1 (by omega)).chg hC fun x hx=>hCo x (HS.out.2.2.2 x hx))
      have HNT:=fA HS.out.2.2.2
      have HGB:=fA (hC.keep GBr (hCo B (HNL'.out B HBI.out.1 (eB GB10.out))))
      have HGI:=fA (hC.keep GIr (hCo I (HNL'.out I HBI.out.2.1 (eB GI10.out))))
      have HNB:jC (¬ L'.own C B/\¬ L'.own C I):=fA ⟨HNL'.out B HBI.out.1 (eB GB10.out),HNL'.out I HBI.out.2.1 (eB GI10.out)⟩
      clear hC hCo gF hT hCT hrT hrC hrm rn rc h5w HS GYr GBr GIr gCr hke
      go_upto_region 22 with fail
      generalize (((wr.setCell ⟨C,0,none⟩ (.slice A4 z1.length a4)).setCell ⟨C,1,none⟩ (.slice B4 z2.length b4)).setCell ⟨C,2,none⟩ (.slice none 0 0))=w14 at *
      clear y0 y1 y2 q0 q1 q2 f0 f1 f2 bB
      obtain ⟨L14,hL14⟩:∃ L14,L14=({ L' with nA:=A4,nc:=a4,cA:=B4,cc:=b4 }:CL):=⟨_,rfl⟩
      have HNT2:jC ((∀ x ∈ zB A2,¬ L14.own C x)/\¬ L14.own C B/\¬ L14.own C I):=fA ⟨fun x hx q=>HNT.out x hx (by rw [hL14] at q;exact q),fun q=>HNB.out.1 (by rw [hL14] at q;exact q),fun q=>HNB.out.2 (by rw [hL14] at q;exact q)⟩
      have HOK14:jC (∀ m,L.ok m -> L14.ok (m+16)):=fA fun m h=>by rw [hL14];exact HOKT.out m h
      rw [<- hL14] at HSM
      have HSX:=fA (HSW.out.trans HSM.out)
      clear hL14
      obtain ⟨c14,hc14⟩:∃ c14,c14=({ pc with ns:=z1,cs:=z2 }:Cl):=⟨_,rfl⟩
      rw [<- hc14] at HSX HZ5
      clear hc14
      have hs14:=HSX.out.chg.size
      have A14:=fA HSX.out.at_
      clear hk1 hk0 hk h0 h0i h0j hwr
      go_wp2_with fail
      go_loopw [123] (fun i wr=>∃ (k:Nat) (L3:CL),k<=pt.length/\i=.int .i64 (k:Int)/\jC (rC R C L14 L3 (Cl.wrC a z3 c14 (pt.take k)) w14 wr/\∀ m,L14.ok m -> L3.ok m)) (fun i _=>pt.length - (intOf i).toNat)
      case atStart=>exact ⟨0,L14,by omega,rfl,fA ⟨rC.refl A14.out (xC _),fun _ h=>h⟩⟩
      case round =>
       obtain ⟨k,L3,hk,rfl,HS⟩:=hrel
       have hk0:(0:Int)<=(k:Int):=by omega
       have hwr:=HS.out.1.chg.size
       by_cases hlt:k<pt.length
       ·have hk1:(k:Int)<(pt.length:Int):=by omega
        have HSU:=fA (zPN a z3 c14 pt hlt)
        obtain ⟨b7,off,rfl,blt,d0⟩:=uJ (HS.out.1.row HRT.out HNT2.out.1) hlt
        generalize (pt[k]'hlt)=id at *
        generalize Cl.wrC a z3 c14 (pt.take k)=ck at *
        have bB:=jA (HS.out.1.blk HGB.out HNT2.out.2.1) 0
        have iI:=jA (HS.out.1.blk HGI.out HNT2.out.2.2) 1
        have HK1:=fA (sQ R C L3 ck 0 5 a id z3 wr HS.out.1.at_ (fun x hx=>HR.out x (by omega)) (by decide))
        go_wp2_with (go_at_call 48;(with_reducible refine HK1.out.mono ?_);rintro e w15 ⟨rfl,L15,st15,hq15⟩)
        go_roundw
        case rel=>exact ⟨k+1,L15,by omega,by go_num,fA ⟨by rw [HSU.out];exact HS.out.1.trans st15,fun m h=>hq15 m (HS.out.2 m h)⟩⟩
        case measure=>simp [intOf];omega
       ·have hk1:¬ (k:Int)<(pt.length:Int):=by omega
        have HZ6:jC (c.write a b=(Cl.wrC a z3 c14 (pt.take k),0)):=fA (by rw [HZ5.out,show k=pt.length by omega,sJ])
        go_wp2
        go_ret
        rw [HZ6.out]
        exact ⟨rfl,L3,HSX.out.trans HS.out.1,fun m h=>(HS.out.2 _ (HOK14.out m h)).mono (by omega)⟩
end Go.Proofs.YtogbpifcmhafkaaGreat
