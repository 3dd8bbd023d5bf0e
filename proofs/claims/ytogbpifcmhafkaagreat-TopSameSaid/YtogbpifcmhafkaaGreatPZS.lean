/-
 Part PZS of the proof.
-/
import Derived.Test.YtogbpifcmhafkaaGreatPZR
open Go renaming World->uA
open Go.Lib renaming hid->fA
open List renaming mem_singleton->xB
open Nat renaming le_refl->mA,le_trans->pA,lt_of_lt_of_le->tA
open Option renaming some->yA
namespace Go.Proofs.YtogbpifcmhafkaaGreat
open Go.RowKit Tryz
open Go.Lib(hid)
set_option linter.unusedVariables false
set_option linter.unusedSimpArgs false
set_option maxRecDepth 100000
set_option maxHeartbeats 16000000
def Cl.knws (c:Cl) (l:List Cx):Cl:=l.foldl (fun c x=>(c.knw x.2.2.1 x.2.2.2.1 x.2.2.2.2.1 x.2.2.2.2.2).1) c
def Cl.roundA (c:Cl) (p:zAb):Cl:=Cl.knws { c with ls:=p.1,ds:=p.2.1 } p.2.2.2
def Cl.roundP (c:Cl) (p:zAb):Cl:={ c.roundA p with net:=(c.roundA p).net ++ p.2.2.1 }
theorem zMp (c:Cl) (l:List Cx) {k:Nat} (hk:k<l.length):c.knws (l.take (k+1))=((c.knws (l.take k)).knw (l[k]'hk).2.2.1 (l[k]'hk).2.2.2.1 (l[k]'hk).2.2.2.2.1 (l[k]'hk).2.2.2.2.2).1:=by
 unfold Cl.knws
 rw [List.take_succ_eq_append_getElem hk,List.foldl_append]
 rfl
theorem zGd (c:Cl) (l:List Cx):∃ ns cs,c.knws l={ c with ns:=ns,cs:=cs }:=by
 unfold Cl.knws
 have key:∀ (l:List Cx) (c':Cl),(∃ ns cs,c'={ c with ns:=ns,cs:=cs }) -> ∃ ns cs,l.foldl (fun c x=>(c.knw x.2.2.1 x.2.2.2.1 x.2.2.2.2.1 x.2.2.2.2.2).1) c'={ c with ns:=ns,cs:=cs }:=by
  intro l
  induction l with
  | nil=>intro c' h;exact h
  | cons x l ih =>
   intro c' h
   obtain ⟨n1,s1,rfl⟩:=h
   obtain ⟨n2,s2,e⟩:=zIi { c with ns:=n1,cs:=s1 } x.2.2.1 x.2.2.2.1 x.2.2.2.2.1 x.2.2.2.2.2
   exact ih _ ⟨n2,s2,e⟩
 exact key l c ⟨c.ns,c.cs,rfl⟩
def Cl.round (c:Cl):Cl:=c.roundP (xO c.ns c.cs c.bs c.ls c.ds c.r c.t)
theorem zHB (R:Nat -> Prop) (C:Nat) (L:CL) (c:Cl) (i a b d:Int) (w:uA) (h:iG R w C L c) (hR:∀ x,w.heap.size<=x -> R x) (hru:vT c.r=true) (ht:0<=c.t/\c.t<=1000000000) (hns:jH 0 c.ns=true) (hcs:pG c.cs=true) (hls:c.ls.length<=100) (hds:c.ds.length<=3200) (hn:c.net.length<=2000000) :
  Calls prog 19 #[.pointer (yA ⟨C,0,none⟩),.agg #[i,a,b,d]] w fun e w'=>lL R C L 0 w (.int .i64 0) c.round e w'/\(xO c.ns c.cs c.bs c.ls c.ds c.r c.t).2.2.1.length<=10000:=by
 have hal:=wA w (.cells #[i,a,b,d] 32)
 have hWw:=hal.size
 have HH:=fA h
 have HR:=fA hR
 have gC:=kA hal h.blk
 have HRX:=fA (zFc (ns:=c.ns) (ds:=c.ds) c.bs c.t hru hcs hls)
 have hq:∀ x,L.rd R w C x -> x<w.heap.size:=fun x hx=>hx.2.2
 have HRD0:=fA (fun V (hb:Below w.heap.size w V)=>zMN L.nA L.cA L.bA L.lA L.dA L.nc L.cc L.bc L.lc L.dc c.ns c.cs c.bs c.ls c.ds c.r.1 c.r.2.1 c.r.2.2.1 c.r.2.2.2.1 c.r.2.2.2.2.1 c.r.2.2.2.2.2 c.t V ((h.rn.below hb).mono fun x hx=>tA hx.2.2 hb.size) ((h.rc.below hb).mono fun x hx=>tA hx.2.2 hb.size) (h.rb.1.below hb) (h.rl.1.below hb) (h.rd.1.below hb) hru ht hns hcs hls (by omega))
 unfold Cl.round
 generalize hp:xO c.ns c.cs c.bs c.ls c.ds c.r c.t=p at *
 have hml:p.1.length<=100:=HRX.out.ls
 have hmd:p.2.1.length<=100000:=by have:=HRX.out.ds;omega
 have hmb:=h.rb.1.max
 clear h hR hru ht hns hcs hls hds hq hp
 go_enter func19,ntmps19
 go_wp2_with fail
 have hIl:w.heap.size<(w.alloc (.cells #[i,a,b,d] 32)).heap.size:=by simp
 generalize w.alloc (.cells #[i,a,b,d] 32)=W at *
 have HRD:=fA (fun V (hb:Below W.heap.size W V)=>HRD0.out V (hal.trans (hb.mono hWw)))
 have HSS:Hid (∀ V,Below W.heap.size W V -> (fun V:uA=>V.cell? ⟨C,0,none⟩=yA (.slice L.nA c.ns.length L.nc)/\V.cell? ⟨C,1,none⟩=yA (.slice L.cA c.cs.length L.cc)/\V.cell? ⟨C,2,none⟩=yA (.slice none 0 0)/\V.cell? ⟨C,3,none⟩=yA (.slice L.bA c.bs.length L.bc)/\V.cell? ⟨C,4,none⟩=yA (.slice L.lA c.ls.length L.lc)/\V.cell? ⟨C,5,none⟩=yA (.slice L.dA c.ds.length L.dc)/\V.cell? ⟨C,6,none⟩=yA (.int .i64 c.r.1)/\V.cell? ⟨C,7,none⟩=yA (.int .i64 c.r.2.1)/\V.cell? ⟨C,8,none⟩=yA (.int .i64 c.r.2.2.1)/\V.cell? ⟨C,9,none⟩=yA (.int .i64 c.r.2.2.2.1)/\V.cell? ⟨C,10,none⟩=yA (.int .i64 c.r.2.2.2.2.1)/\V.cell? ⟨C,11,none⟩=yA (.int .i64 c.r.2.2.2.2.2)/\V.cell? ⟨C,12,none⟩=yA (.int .i64 c.t)) V):=fA fun V hb=>⟨jA (kA hb gC) 0,jA (kA hb gC) 1,jA (kA hb gC) 2,jA (kA hb gC) 3,jA (kA hb gC) 4,jA (kA hb gC) 5,jA (kA hb gC) 6,jA (kA hb gC) 7,jA (kA hb gC) 8,jA (kA hb gC) 9,jA (kA hb gC) 10,jA (kA hb gC) 11,jA (kA hb gC) 12⟩
 have GC:=fA gC
 have b0:Below W.heap.size W W.drew:=⟨rfl,rfl,rfl,mA _,fun _ _=>rfl⟩
 have bA0:Below W.heap.size W (W.alloc (.cells #[.slice none 0 0,.slice none 0 0,.slice none 0 0] 56)).drew:=(wA W (.cells #[.slice none 0 0,.slice none 0 0,.slice none 0 0] 56)).drew
 have gA:=iB (rB W (.cells #[.slice none 0 0,.slice none 0 0,.slice none 0 0] 56))
 have HF5:Hid (∀ (V w4:uA) bA bc lA lc dA dc oA oc xA xc,Below W.heap.size W V -> w4.ownsRow V.heap.size 173 2 (.slice bA c.bs.length bc) c.bs.length (flat zU c.bs) -> w4.ownsRow V.heap.size 176 5 (.slice lA p.1.length lc) p.1.length (flat vU p.1) -> w4.ownsRow V.heap.size 105 7 (.slice dA p.2.1.length dc) p.2.1.length (flat qL p.2.1) -> w4.ownsRow V.heap.size 105 7 (.slice oA p.2.2.1.length oc) p.2.2.1.length (flat qL p.2.2.1) -> w4.ownsRow V.heap.size 99 6 (.slice xA p.2.2.2.length xc) p.2.2.2.length (flat zEw p.2.2.2) -> (p.2.2.1.length<=10000/\p.2.2.2.length<=10000 -> (rQ (w.heap.size<=·) zU w4 bA bc c.bs/\rQ (w.heap.size<=·) vU w4 lA lc p.1/\rQ (w.heap.size<=·) qL w4 dA dc p.2.1/\rQ (w.heap.size<=·) qL w4 oA oc p.2.2.1/\rQ (w.heap.size<=·) zEw w4 xA xc p.2.2.2)/\∀ {o},V.heap[W.heap.size]?=yA o -> ∀ w5,fD [W.heap.size] w4 w5 -> (rQ (w.heap.size<=·) zU w5 bA bc c.bs/\rQ (w.heap.size<=·) vU w5 lA lc p.1/\rQ (w.heap.size<=·) qL w5 dA dc p.2.1/\rQ (w.heap.size<=·) qL w5 oA oc p.2.2.1/\rQ (w.heap.size<=·) zEw w5 xA xc p.2.2.2))):=fA fun V w4 bA bc lA lc dA dc oA oc xA xc hb o1 o2 o3 o4 o5 hl=>by
  have hVs:=pA hWw hb.size
  have k1:=vS.of_own o1 hmb
  have k2:=vS.of_own o2 (by omega)
  have k3:=vS.of_own o3 (by omega)
  have k4:=vS.of_own o4 (by omega)
  have k5:=vS.of_own o5 (by omega)
  have m:∀ x:Nat,V.heap.size<=x/\x<w4.heap.size -> w.heap.size<=x/\x<w4.heap.size:=fun x hx=>⟨pA hVs hx.1,hx.2⟩
  refine ⟨⟨k1.mono m,k2.mono m,k3.mono m,k4.mono m,k5.mono m⟩,fun hV w5 hc => ?_⟩
  have hlt:=eB hV
  have n:∀ x:Nat,V.heap.size<=x/\x<w4.heap.size -> x ∉ [W.heap.size]:=fun x hx q=>by rw [xB] at q;omega
  have m2:∀ x:Nat,V.heap.size<=x/\x<w4.heap.size -> w.heap.size<=x/\x<w5.heap.size:=fun x hx=>⟨pA hVs hx.1,tA hx.2 hc.size⟩
  exact ⟨(k1.chg hc n).mono m2,(k2.chg hc n).mono m2,(k3.chg hc n).mono m2,(k4.chg hc n).mono m2,(k5.chg hc n).mono m2⟩
 clear gC
 go_cut [5,6,7] (fun m n o wx=>∃ Y bA bc lA lc dA dc oA oc xA xc,m=.pointer (yA ⟨Y,0,none⟩)/\n=.slice oA p.2.2.1.length oc/\o=.slice xA p.2.2.2.length xc/\(wx.heap[Y]?=yA (.cells #[.slice bA c.bs.length bc,.slice lA p.1.length lc,.slice dA p.2.1.length dc] 56)/\W.heap.size<=Y/\Below W.heap.size W wx/\(rQ (w.heap.size<=·) zU wx bA bc c.bs/\rQ (w.heap.size<=·) vU wx lA lc p.1/\rQ (w.heap.size<=·) qL wx dA dc p.2.1/\rQ (w.heap.size<=·) qL wx oA oc p.2.2.1/\rQ (w.heap.size<=·) zEw wx xA xc p.2.2.2))/\(p.1.length<=100/\p.2.1.length<=10000/\p.2.2.1.length<=10000/\p.2.2.2.length<=10000))
 case first =>
  refine iC (S:=fun V:uA=>V.cell? ⟨C,0,none⟩=yA (.slice L.nA c.ns.length L.nc)/\V.cell? ⟨C,1,none⟩=yA (.slice L.cA c.cs.length L.cc)/\V.cell? ⟨C,2,none⟩=yA (.slice none 0 0)/\V.cell? ⟨C,3,none⟩=yA (.slice L.bA c.bs.length L.bc)/\V.cell? ⟨C,4,none⟩=yA (.slice L.lA c.ls.length L.lc)/\V.cell? ⟨C,5,none⟩=yA (.slice L.dA c.ds.length L.dc)/\V.cell? ⟨C,6,none⟩=yA (.int .i64 c.r.1)/\V.cell? ⟨C,7,none⟩=yA (.int .i64 c.r.2.1)/\V.cell? ⟨C,8,none⟩=yA (.int .i64 c.r.2.2.1)/\V.cell? ⟨C,9,none⟩=yA (.int .i64 c.r.2.2.2.1)/\V.cell? ⟨C,10,none⟩=yA (.int .i64 c.r.2.2.2.2.1)/\V.cell? ⟨C,11,none⟩=yA (.int .i64 c.r.2.2.2.2.2)/\V.cell? ⟨C,12,none⟩=yA (.int .i64 c.t)) [22] (HSS.out _ b0) fun hH => ?_
  refine gU [0,1,2,103,4,5,6,107,8,9,10,111,12,13,14,115] ?_
  refine bU 16 21 (fun K hK => ?_) (fun K hK => ?_)
  ·go_simp
   go_at_call 50
   refine (HRD.out _ b0).mono ?_
   rintro e w4 ⟨bA,bc,lA,lc,dA,dc,oA,oc,xA,xc,rfl,o1,o2,o3,o4,o5,hlen,hb4⟩
   have hbX:=b0.trans (hb4.mono b0.size)
   have HRW:=fA (HF5.out _ _ _ _ _ _ _ _ _ _ _ _ b0 o1 o2 o3 o4 o5 ⟨hlen.2.2.1,hlen.2.2.2⟩)
   clear o1 o2 o3 o4 o5
   refine hK.out _ _ (HSS.out _ hbX) fun hH => ?_
   clear hK K
   refine gU [17,18,19,20] ?_
   refine oU 21 fun K hK => ?_
   go_simp
   refine hK.out _ _ (HSS.out _ (hbX.trans ((wA w4 (.cells #[.slice none 0 0,.slice none 0 0,.slice none 0 0] 56)).mono hbX.size))) fun hH => ?_
   clear hK K
   refine tU 22 fun K hK => ?_
   have gY:=rB w4 (.cells #[.slice none 0 0,.slice none 0 0,.slice none 0 0] 56)
   have y0:=jA gY 0
   have y1:=jA gY 1
   have y2:=jA gY 2
   have f0:=qB gY 0
   have f1:=qB gY 1
   have f2:=qB gY 2
   go_simp
   refine hK.out _ _ ?_
   clear hK K
   refine gU [23,24,300] ?_
   have HRL:=fA (show (w4.alloc (.cells #[.slice bA c.bs.length bc,.slice lA p.1.length lc,.slice dA p.2.1.length dc] 56)).heap[w4.heap.size]?=yA (.cells #[.slice bA c.bs.length bc,.slice lA p.1.length lc,.slice dA p.2.1.length dc] 56)/\W.heap.size<=w4.heap.size/\Below W.heap.size W (w4.alloc (.cells #[.slice bA c.bs.length bc,.slice lA p.1.length lc,.slice dA p.2.1.length dc] 56))/\(rQ (w.heap.size<=·) zU (w4.alloc (.cells #[.slice bA c.bs.length bc,.slice lA p.1.length lc,.slice dA p.2.1.length dc] 56)) bA bc c.bs/\rQ (w.heap.size<=·) vU (w4.alloc (.cells #[.slice bA c.bs.length bc,.slice lA p.1.length lc,.slice dA p.2.1.length dc] 56)) lA lc p.1/\rQ (w.heap.size<=·) qL (w4.alloc (.cells #[.slice bA c.bs.length bc,.slice lA p.1.length lc,.slice dA p.2.1.length dc] 56)) dA dc p.2.1/\rQ (w.heap.size<=·) qL (w4.alloc (.cells #[.slice bA c.bs.length bc,.slice lA p.1.length lc,.slice dA p.2.1.length dc] 56)) oA oc p.2.2.1/\rQ (w.heap.size<=·) zEw (w4.alloc (.cells #[.slice bA c.bs.length bc,.slice lA p.1.length lc,.slice dA p.2.1.length dc] 56)) xA xc p.2.2.2) from ⟨rB _ _,hbX.size,hbX.trans ((wA w4 _).mono hbX.size),HRW.out.1.1.below (wA w4 _),HRW.out.1.2.1.below (wA w4 _),HRW.out.1.2.2.1.below (wA w4 _),HRW.out.1.2.2.2.1.below (wA w4 _),HRW.out.1.2.2.2.2.below (wA w4 _)⟩)
   have HLN:=fA hlen
   clear gY y0 y1 y2 f0 f1 f2 hH hlen HRW
   generalize (w4.alloc (.cells #[.slice bA c.bs.length bc,.slice lA p.1.length lc,.slice dA p.2.1.length dc] 56))=WF at *
   go_wp2_with fail
   go_meet
   exact ⟨w4.heap.size,bA,bc,lA,lc,dA,dc,oA,oc,xA,xc,rfl,rfl,rfl,HRL.out,HLN.out⟩
  ·go_simp
   refine hK.out _ _ (HSS.out _ bA0) fun hH => ?_
   clear hK K
   refine oU 16 fun K hK => ?_
   go_simp
   go_at_call 50
   refine (HRD.out _ bA0).mono ?_
   rintro e w4 ⟨bA,bc,lA,lc,dA,dc,oA,oc,xA,xc,rfl,o1,o2,o3,o4,o5,hlen,hb4⟩
   have hbX:=bA0.trans (hb4.mono bA0.size)
   have HRW:=fA (HF5.out _ _ _ _ _ _ _ _ _ _ _ _ bA0 o1 o2 o3 o4 o5 ⟨hlen.2.2.1,hlen.2.2.2⟩)
   clear o1 o2 o3 o4 o5
   have gY:=kA hb4 gA
   have y0:=jA gY 0
   have y1:=jA gY 1
   have y2:=jA gY 2
   have f0:=qB gY 0
   have f1:=qB gY 1
   have f2:=qB gY 2
   refine hK.out _ _ (HSS.out _ hbX) fun hH => ?_
   clear hK K
   refine gU [17,18,19,20] ?_
   refine tU 22 fun K hK => ?_
   go_simp
   refine hK.out _ _ ?_
   clear hK K
   refine gU [23,24,300] ?_
   have HRL:=fA (show (((w4.setCell ⟨W.heap.size,0,none⟩ (.slice bA c.bs.length bc)).setCell ⟨W.heap.size,1,none⟩ (.slice lA p.1.length lc)).setCell ⟨W.heap.size,2,none⟩ (.slice dA p.2.1.length dc)).heap[W.heap.size]?=yA (.cells #[.slice bA c.bs.length bc,.slice lA p.1.length lc,.slice dA p.2.1.length dc] 56)/\W.heap.size<=W.heap.size/\Below W.heap.size W (((w4.setCell ⟨W.heap.size,0,none⟩ (.slice bA c.bs.length bc)).setCell ⟨W.heap.size,1,none⟩ (.slice lA p.1.length lc)).setCell ⟨W.heap.size,2,none⟩ (.slice dA p.2.1.length dc))/\(rQ (w.heap.size<=·) zU (((w4.setCell ⟨W.heap.size,0,none⟩ (.slice bA c.bs.length bc)).setCell ⟨W.heap.size,1,none⟩ (.slice lA p.1.length lc)).setCell ⟨W.heap.size,2,none⟩ (.slice dA p.2.1.length dc)) bA bc c.bs/\rQ (w.heap.size<=·) vU (((w4.setCell ⟨W.heap.size,0,none⟩ (.slice bA c.bs.length bc)).setCell ⟨W.heap.size,1,none⟩ (.slice lA p.1.length lc)).setCell ⟨W.heap.size,2,none⟩ (.slice dA p.2.1.length dc)) lA lc p.1/\rQ (w.heap.size<=·) qL (((w4.setCell ⟨W.heap.size,0,none⟩ (.slice bA c.bs.length bc)).setCell ⟨W.heap.size,1,none⟩ (.slice lA p.1.length lc)).setCell ⟨W.heap.size,2,none⟩ (.slice dA p.2.1.length dc)) dA dc p.2.1/\rQ (w.heap.size<=·) qL (((w4.setCell ⟨W.heap.size,0,none⟩ (.slice bA c.bs.length bc)).setCell ⟨W.heap.size,1,none⟩ (.slice lA p.1.length lc)).setCell ⟨W.heap.size,2,none⟩ (.slice dA p.2.1.length dc)) oA oc p.2.2.1/\rQ (w.heap.size<=·) zEw (((w4.setCell ⟨W.heap.size,0,none⟩ (.slice bA c.bs.length bc)).setCell ⟨W.heap.size,1,none⟩ (.slice lA p.1.length lc)).setCell ⟨W.heap.size,2,none⟩ (.slice dA p.2.1.length dc)) xA xc p.2.2.2) from ⟨xI gY (.slice bA c.bs.length bc) (.slice lA p.1.length lc) (.slice dA p.2.1.length dc),mA _,(((hbX.setCell (p:=⟨W.heap.size,0,none⟩) (mA _) _).setCell (p:=⟨W.heap.size,1,none⟩) (mA _) _).setCell (p:=⟨W.heap.size,2,none⟩) (mA _) _),HRW.out.2 gA _ ((((fD.refl [W.heap.size] w4).setCell (.inl (by simp)) 0 _).setCell (.inl (by simp)) 1 _).setCell (.inl (by simp)) 2 _)⟩)
   have HLN:=fA hlen
   clear gY y0 y1 y2 f0 f1 f2 hH hlen HRW
   generalize (((w4.setCell ⟨W.heap.size,0,none⟩ (.slice bA c.bs.length bc)).setCell ⟨W.heap.size,1,none⟩ (.slice lA p.1.length lc)).setCell ⟨W.heap.size,2,none⟩ (.slice dA p.2.1.length dc))=WF at *
   go_wp2_with fail
   go_meet
   exact ⟨W.heap.size,bA,bc,lA,lc,dA,dc,oA,oc,xA,xc,rfl,rfl,rfl,HRL.out,HLN.out⟩
 case rest =>
  obtain ⟨Y,bA,bc,lA,lc,dA,dc,oA,oc,xA,xc,rfl,rfl,rfl,⟨gY,hY,hb5,r1,r2,r3,r4,r5⟩,hlen⟩:=hcut
  generalize wc=w5 at *
  have hb05:=hal.trans (hb5.mono hWw)
  have gC5:=kA hb5 GC.out
  have y0:=jA gY 0
  have y1:=jA gY 1
  have y2:=jA gY 2
  have f3:=qB gC5 3
  have f4:=qB gC5 4
  have f5:=qB gC5 5
  have c3:=jA gC5 3
  have c4:=jA gC5 4
  have c5:=jA gC5 5
  have hCl:C<w.heap.size:=eB HH.out.blk
  have hC:fD [C] w5 (((w5.setCell ⟨C,3,none⟩ (.slice bA c.bs.length bc)).setCell ⟨C,4,none⟩ (.slice lA p.1.length lc)).setCell ⟨C,5,none⟩ (.slice dA p.2.1.length dc)):=(((fD.refl _ w5).setCell (.inl (by simp)) 3 _).setCell (.inl (by simp)) 4 _).setCell (.inl (by simp)) 5 _
  have hnC:∀ x,w.heap.size<=x -> x ∉ [C]:=fun x hx q=>by rw [xB] at q;omega
  have gF:(((w5.setCell ⟨C,3,none⟩ (.slice bA c.bs.length bc)).setCell ⟨C,4,none⟩ (.slice lA p.1.length lc)).setCell ⟨C,5,none⟩ (.slice dA p.2.1.length dc)).heap[C]?=yA (zNm (.slice L.nA c.ns.length L.nc) (.slice L.cA c.cs.length L.cc) (.slice bA c.bs.length bc) (.slice lA p.1.length lc) (.slice dA p.2.1.length dc) c.r c.t L.M (.slice L.eA c.net.length L.ec)):=by simpa using zD (i:=5) (zD (i:=4) (zD (i:=3) gC5 (.slice bA c.bs.length bc)) (.slice lA p.1.length lc)) (.slice dA p.2.1.length dc)
  have h5:=HH.out.below hb05
  have hfr:∀ {α:Type} {enc:α -> List Value} {A:Option Addr} {a:Nat} {xs:List α},rQ (w.heap.size<=·) enc w5 A a xs -> vS (L.rd R (((w5.setCell ⟨C,3,none⟩ (.slice bA c.bs.length bc)).setCell ⟨C,4,none⟩ (.slice lA p.1.length lc)).setCell ⟨C,5,none⟩ (.slice dA p.2.1.length dc)) C) enc (((w5.setCell ⟨C,3,none⟩ (.slice bA c.bs.length bc)).setCell ⟨C,4,none⟩ (.slice lA p.1.length lc)).setCell ⟨C,5,none⟩ (.slice dA p.2.1.length dc)) A a xs:=fun hr=>vS.mono (rQ.chg hr hC hnC) fun x hx=>zBl HH.out HR.out hx.1 hx.2
  have HS6:=fA ((rC.refl HH.out hb05).trans (h5.upd (L':={ L with bA:=bA,bc:=bc,lA:=lA,lc:=lc,dA:=dA,dc:=dc }) (c':={ c with ls:=p.1,ds:=p.2.1 }) hC rfl rfl rfl rfl rfl rfl rfl gF (h5.kn hC (wP C L)) (h5.kc hC (wP C L)) (hfr r1) (hfr r2) (hfr r3)))
  have HR4:=fA (rQ.chg r4 hC hnC)
  have HR5:=fA (rQ.chg r5 hC hnC)
  have HKD:=fA HRX.out.xs
  have hox:=hlen.2.2.1
  have hxl:=hlen.2.2.2
  have HNO:=fA (fun x (hx:w.heap.size<=x) (q:L.own C x)=>(by have:=HH.out.own_lt q;omega:False))
  clear hC hnC gF h5 hfr r1 r2 r3 r4 r5 gC5 gY hlen
  go_upto_region 3 with fail
  generalize (((w5.setCell ⟨C,3,none⟩ (.slice bA c.bs.length bc)).setCell ⟨C,4,none⟩ (.slice lA p.1.length lc)).setCell ⟨C,5,none⟩ (.slice dA p.2.1.length dc))=w6 at *
  clear y0 y1 y2 f3 f4 f5 c3 c4 c5
  have hs6:=HS6.out.chg.size
  have HP:Hid (c.roundP p={ Cl.knws { c with ls:=p.1,ds:=p.2.1 } p.2.2.2 with net:=(Cl.knws { c with ls:=p.1,ds:=p.2.1 } p.2.2.2).net ++ p.2.2.1 }):=fA rfl
  obtain ⟨L6,hL6⟩:∃ L6,L6=({ L with bA:=bA,bc:=bc,lA:=lA,lc:=lc,dA:=dA,dc:=dc }:CL):=⟨_,rfl⟩
  have HOK6:Hid (∀ m,L.ok m -> L6.ok m):=fA fun m h=>by rw [hL6];exact h
  have HN6:Hid (∀ x,w.heap.size<=x -> ¬ L6.own C x):=fA fun x hx q=>HNO.out x hx (by rw [hL6] at q;exact q)
  rw [<- hL6] at HS6
  clear hL6
  obtain ⟨c6,hc6⟩:∃ c6,c6=({ c with ls:=p.1,ds:=p.2.1 }:Cl):=⟨_,rfl⟩
  have HN:Hid (c6.net=c.net):=fA (by rw [hc6])
  rw [<- hc6] at HS6 HP
  clear hc6
  generalize p.2.2.2=xs at *
  generalize hos:p.2.2.1=os at *
  have HOS:=fA hos
  clear hos
  go_wp2_with fail
  go_loopw [37] (fun i wr=>∃ (k:Nat) (L':CL),k<=xs.length/\i=.int .i64 (k:Int)/\Hid (rC R C L6 L' (c6.knws (xs.take k)) w6 wr/\∀ m,L6.ok m -> L'.ok m)) (fun i _=>xs.length - (intOf i).toNat)
  case atStart=>exact ⟨0,L6,by omega,rfl,fA ⟨rC.refl HS6.out.at_ (xC _),fun _ h=>h⟩⟩
  case round =>
   obtain ⟨k,L',hk,rfl,HS⟩:=hrel
   have hk0:(0:Int)<=(k:Int):=by omega
   have hwr:=HS.out.1.chg.size
   by_cases hlt:k<xs.length
   ·have hk1:(k:Int)<(xs.length:Int):=by omega
    have HX:=fA (HKD.out _ (List.getElem_mem hlt))
    have HSU:=fA (zMp c6 xs hlt)
    obtain ⟨b,off,rfl,blt,d0,d1,d2,d3,d4,d5⟩:=zHT (HS.out.1.row HR5.out.1 fun x hx=>HN6.out x (HR5.out.2 x hx).1) hlt
    generalize (xs[k]'hlt)=x at *
    obtain ⟨x1,x2,x3,x4,x5,x6⟩:=x
    obtain ⟨rfl,rfl⟩:x1=0/\x3=6:=HX.out
    generalize c6.knws (xs.take k)=ck at *
    have HC:=fA (sQ R C L' ck x2 6 x4 x5 x6 (wr.alloc (.cells #[.int .i64 0,x2,.int .i64 6,x4,x5,x6] 99)) (HS.out.1.at_.below (wA wr (.cells #[.int .i64 0,x2,.int .i64 6,x4,x5,x6] 99))) (fun x hx=>HR.out x (by have:=(wA wr (.cells #[.int .i64 0,x2,.int .i64 6,x4,x5,x6] 99)).size;omega)) (by decide))
    have gX:=rB wr (.cells #[.int .i64 0,x2,.int .i64 6,x4,x5,x6] 99)
    have e0:=jA gX 0
    have e1:=jA gX 1
    have e2:=jA gX 2
    have e3:=jA gX 3
    have e4:=jA gX 4
    have e5:=jA gX 5
    dsimp only at d0 d1 d2 d3 d4 d5
    clear gX
    go_wp2_with (go_at_call 48;(with_reducible refine HC.out.mono ?_);rintro e w8 ⟨rfl,L8,st8,hq8⟩)
    go_roundw
    case rel=>exact ⟨k+1,L8,by omega,by go_num,fA ⟨by rw [HSU.out];exact HS.out.1.trans ((rC.refl HS.out.1.at_ (wA wr (.cells #[.int .i64 0,x2,.int .i64 6,x4,x5,x6] 99))).trans st8),fun m h=>hq8 m (HS.out.2 m h)⟩⟩
    case measure=>simp [intOf];omega
   ·have hk1:¬ (k:Int)<(xs.length:Int):=by omega
    have hke:k=xs.length:=by omega
    have HNE:Hid ((c6.knws (xs.take k)).net=c.net):=fA (by obtain ⟨n1,s1,e⟩:=zGd c6 (xs.take k);rw [e];exact HN.out)
    have HKE:Hid (c6.knws xs=c6.knws (xs.take k)):=fA (by rw [hke,List.take_length])
    rw [HKE.out] at HP
    generalize c6.knws (xs.take k)=ck at *
    have hnl:ck.net.length<=2000000:=by rw [HNE.out];exact hn
    have HA:=fA HS.out.1.at_
    have HRW:=fA (HS.out.1.row HR4.out.1 fun x hx=>HN6.out x (HR4.out.2 x hx).1)
    have c14:=jA HA.out.blk 14
    have HNC:=fA (show C ∉ zB L'.eA from fun q=>(HA.out.ce _ q).1 rfl)
    have HFI:=fA (fun (A5:Option Addr) (c5:Nat) (w5:uA) (own5:w5.ownsRow 0 105 7 (.slice A5 (ck.net.length+os.length) c5) (ck.net.length+os.length) (flat qL ck.net ++ flat qL os)) (C5:fD (zB L'.eA) wr w5) (at5:∀ x ∈ zB A5,x ∈ zB L'.eA\/wr.heap.size<=x)=>HS6.out.trans (HS.out.1.trans (iG.netApp HA.out own5 (by simp) C5 at5)))
    clear hke
    go_wp2_with (at_builtin;refine yC rfl (.tmp 49) (.tmp 50) rfl cO 0 (.slice L'.eA ck.net.length L'.ec) ck.net.length (flat qL ck.net) (by rfl) HA.out.ne oA os.length oc (flat qL os) (by rfl) (jD zW _) HRW.out.row (jF tS _) (by unfold maxLen;omega) (by omega) (Nat.zero_le _) HRW.out.none_ ?_;intro A5 c5 w8 own5 hg5 hat5;have C5:=tE hg5;have at5:=wF hat5;have gC8:=C5.keep HA.out.blk HNC.out;have g14:=jA gC8 14;have k14:=qB gC8 14;have HL:=fA (HFI.out A5 c5 w8 own5 C5 at5);clear own5 hg5 hat5 C5 at5 gC8)
    go_ret
    rw [HP.out]
    exact ⟨⟨rfl,_,HL.out,fun m h=>HS.out.2 m (HOK6.out m h)⟩,by rw [HOS.out];exact hox⟩
end Go.Proofs.YtogbpifcmhafkaaGreat
