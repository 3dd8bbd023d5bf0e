/-
 Part PZK of the proof.
-/
import Derived.Test.YtogbpifcmhafkaaGreatPZG
open Go renaming World->uA,maxLen->fC
open Go.Lib renaming hid->fA
open Go.RowKit renaming Hid->jC
open Go.World renaming size_alloc->wB
open List renaming length_append->kB,mem_append->xD,mem_append_left->nO,mem_append_right->iR
open Nat renaming le_trans->pA,zero_add->bD
open Option renaming some->yA
open Prod.mk renaming injEq->cX
namespace Go.Proofs.YtogbpifcmhafkaaGreat
open Go.RowKit Tryz
open Go.Lib(hid)
set_option linter.unusedVariables false
set_option linter.unusedSimpArgs false
set_option maxRecDepth 100000
set_option maxHeartbeats 16000000
def trimS (c:uS) (p:zAb) (x:Ch):zAb :=
 if 0<(tM p.1 x.1).length then p else if (cI x.2.2.2 c.ns c.al (zH c.cs c.ns p.1) c.r.2.2.2.1).2=false then p else
 (p.1,p.2.1 ++ [(1,x.1,x.2.1,x.2.2.1,(cI x.2.2.2 c.ns c.al (zH c.cs c.ns p.1) c.r.2.2.2.1).1,(cI x.2.2.2 c.ns c.al (zH c.cs c.ns p.1) c.r.2.2.2.1).1,c.t+c.r.2.2.2.2.1)],p.2.2.1 ++ [(1,x.1,x.2.1,x.2.2.1,(cI x.2.2.2 c.ns c.al (zH c.cs c.ns p.1) c.r.2.2.2.1).1,(cI x.2.2.2 c.ns c.al (zH c.cs c.ns p.1) c.r.2.2.2.1).1,c.t+c.r.2.2.2.2.1)],p.2.2.2 ++ [(0,0,6,x.1,(cI x.2.2.2 c.ns c.al (zH c.cs c.ns p.1) c.r.2.2.2.1).1,0)])
def trimsF (c:uS) (p:zAb) (l:List Ch):zAb:=l.foldl (trimS c) p
theorem zJd (c:uS) (p:zAb) (l:List Ch) {k:Nat} (hk:k<l.length):trimsF c p (l.take (k+1))=trimS c (trimsF c p (l.take k)) (l[k]'hk):=by
 unfold trimsF
 rw [List.take_succ_eq_append_getElem hk,List.foldl_append]
 rfl
theorem zDw {w:uA} {t:Nat} {a b c d e f g:Int} (h:w.heap[t]?=yA (uL a b c d e f g)):dC w (yA ⟨t,0,none⟩) (qL (a,b,c,d,e,f,g)):=.inr ⟨t,0,rfl,eB h,fun j u hj=>by rw [jA h,bD];simpa [qL] using hj⟩
theorem zRv {w:uA} {t:Nat} {a b c d e f:Int} (h:w.heap[t]?=yA (zPR a b c d e f)):dC w (yA ⟨t,0,none⟩) (zEw (a,b,c,d,e,f)):=.inr ⟨t,0,rfl,eB h,fun j u hj=>by rw [jA h,bD];simpa [zEw] using hj⟩
structure zNq (c:uS) (m:uQ) (N:Nat):Prop where
 ls:m.ls.length<=100
 ds:m.ds.length<=N
 os:m.os.length<=N
 xs:m.xs.length<=N
structure zPT (c:uS):Prop where
 r:vT c.r=true
 t:0<=c.t/\c.t<=1000000000
 ns:jH 0 c.ns=true
 cs:c.cs.length<=1000
 se:c.se.length<=1000
 hs:∀ x ∈ c.se,x.2.2.2.length<=1000
theorem zNj (Q:Nat -> Prop) (base D:Nat) (c:uS) (m:uQ) (N:Nat) (w:uA) (h:fW Q base w D c m) (ho:zPT c) (hn:zNq c m N) (hN:N<=10000):Calls prog 108 #[(D,0)] w fun e w'=>∃ m',e=.returned (.tuple #[])/\m'.p=trimsF c m.p c.se/\zNq c m' (N+c.se.length)/\sG Q base D c m m' w w':=by
 have hho:=zDA ho.r
 obtain ⟨un,hun⟩:∃ un,c.t+c.r.2.2.2.2.1=un:=⟨_,rfl⟩
 have hot:=ho.t
 have hu0:IntKind.i64.wrap (c.t+c.r.2.2.2.2.1)=c.t+c.r.2.2.2.2.1:=oH (by omega) (by omega)
 have hu:wrap64 (c.t+c.r.2.2.2.2.1)=un:=by rw [<- hun];simp only [IntKind.wrap,wrap64] at hu0 ⊢;omega
 have hu1:IntKind.i64.wrap (c.t+c.r.2.2.2.2.1)=un:=by rw [<- hun];exact hu0
 have HUN:=fA hun
 have HOK:=fA ho
 have hnl:c.ns.length<=1000:=by rcases zBC c.ns 0 ho.ns with q | q <;> omega
 have hcl:=ho.cs
 have hsl:=ho.se
 have HHS:=fA ho.hs
 have HSU:=fA (fun k (hk:k<c.se.length)=>zJd c m.p c.se hk)
 have HR0:=fA (sG.refl h (xC w))
 have HN0:=fA hn
 have HP0:jC (m.p=trimsF c m.p (c.se.take 0)):=fA rfl
 have gD:=h.blk
 have d14:w.cell? ⟨D,14,none⟩=yA (.slice c.sA c.se.length c.sc):=jA gD 14
 have hDl:=eB gD
 obtain ⟨sA,hsA⟩:∃ sA,sA=c.sA:=⟨_,rfl⟩
 rw [<- hsA] at d14
 have HSA:=fA hsA
 clear hho hun hu0 ho hn h gD hot hsA
 go_enter func108,ntmps108
 go_wp2
 clear d14 hDl
 go_loopw [3,4,5,6,12] (fun v3 v4 v5 v6 i wr=>∃ (k:Nat) (m':uQ),k<=c.se.length/\i=.int .i64 (k:Int)/\jC (m'.p=trimsF c m.p (c.se.take k))/\jC (zNq c m' (N+k))/\jC (sG Q base D c m m' w wr)) (fun _ _ _ _ i _=>c.se.length - (intOf i).toNat)
 case atStart=>exact ⟨0,m,by omega,rfl,HP0,HN0,HR0⟩
 case round =>
  clear HR0 HN0 HP0
  obtain ⟨k,m',hk,rfl,HP,HN,HR⟩:=hrel
  have hk0:(0:Int)<=(k:Int):=by omega
  by_cases hlt:k<c.se.length
  ·have hk1:(k:Int)<(c.se.length:Int):=by omega
   have HS:=fA (HSU.out k hlt)
   have HA:=fA HR.out.at_
   have hxl:=HHS.out _ (List.getElem_mem hlt)
   obtain ⟨b,off,a,cc,hsA,blt,e0,e1,e2,e3,HH⟩:=HA.out.se.in_.cells hlt
   have hsB:=HSA.out.trans hsA
   clear hsA
   subst hsB
   generalize (c.se[k]'hlt)=x at *
   obtain ⟨x1,x2,x3,x4⟩:=x
   simp only at e0 e1 e2 e3 HH hxl
   have hal:=wA wr (qN x1 x2 x3 a x4.length cc)
   have gX:=rB wr (qN x1 x2 x3 a x4.length cc)
   have HA1:=fA (HA.out.below hal)
   have hll:=HN.out.ls
   have hds:=HN.out.ds
   have hos:=HN.out.os
   have hxs:=HN.out.xs
   have HCM:=fA (fun W (hb:Below wr.heap.size wr W)=>zEs D m'.lA m'.lc m'.ls x1 W (yB.of_own (jB HA.out.lo hb) (by omega)) (jA (kA hb HA.out.blk) 1))
   have HLD:=fA (fun W (hb:Below wr.heap.size wr W)=>zEN D _ _ _ _ _ _ _ c.r c.t m'.lA c.nA c.cA m'.lc c.nc c.cc m'.ls c.ns c.cs W (kA hb HA.out.blk) (yB.of_own (jB HA.out.lo hb) (by omega)) (HA.out.ns.1.below hb) (HA.out.cs.in_.below hb) (by omega) hnl hcl)
   have HEX:=fA (fun W L lc (hb:Below wr.heap.size wr W) (f:yB zV W L lc (zH c.cs c.ns m'.ls))=>zJT x1 x2 x3 a cc x4 c.nA c.nc c.ns c.vA c.vc c.al L lc (zH c.cs c.ns m'.ls) c.r.2.2.2.1 W (HH.below hb) (HA.out.ns.1.below hb) (HA.out.al.1.below hb) f hxl)
   have hrl:=(zCB c.cs c.ns m'.ls).2
   have HST:jC (trimS c m'.p (x1,x2,x3,x4)=if 0<(tM m'.ls x1).length then m'.p else if (cI x4 c.ns c.al (zH c.cs c.ns m'.ls) c.r.2.2.2.1).2=false then m'.p else (m'.ls,m'.ds ++ [(1,x1,x2,x3,(cI x4 c.ns c.al (zH c.cs c.ns m'.ls) c.r.2.2.2.1).1,(cI x4 c.ns c.al (zH c.cs c.ns m'.ls) c.r.2.2.2.1).1,un)],m'.os ++ [(1,x1,x2,x3,(cI x4 c.ns c.al (zH c.cs c.ns m'.ls) c.r.2.2.2.1).1,(cI x4 c.ns c.al (zH c.cs c.ns m'.ls) c.r.2.2.2.1).1,un)],m'.xs ++ [(0,0,6,x1,(cI x4 c.ns c.al (zH c.cs c.ns m'.ls) c.r.2.2.2.1).1,0)])):=fA (by rw [<- HUN.out];rfl)
   generalize cI x4 c.ns c.al (zH c.cs c.ns m'.ls) c.r.2.2.2.1=ex at *
   obtain ⟨id,is⟩:=ex
   simp only at HST HEX
   generalize zH c.cs c.ns m'.ls=lds at *
   generalize tM m'.ls x1=cm at *
   clear HH
   go_upto_region 3 with fail
   generalize wr.alloc (qN x1 x2 x3 a x4.length cc)=W2 at *
   obtain ⟨p0,p1,p2,p3,_⟩:=nH gX
   have arm1:jC (Below wr.heap.size wr W2):=fA hal
   by_cases hcm:0<cm.length
   ·have hcmi:(0:Int)<(cm.length:Int):=by omega
    have HST2:jC (trimS c m'.p (x1,x2,x3,x4)=m'.p):=fA (by rw [HST.out,if_pos hcm])
    go_wp2_with (go_at_call 179;refine (HCM.out _ hal).mono ?_;rintro e w3 ⟨A3,c3,rfl,own3,hb3⟩)
    go_roundw
    case rel=>exact ⟨k+1,m',by omega,by go_num,fA (by rw [HS.out,<- HP.out,HST2.out]),fA ⟨hll,by omega,by omega,by omega⟩,fA (HR.out.trans (sG.refl HA.out (hal.trans (hb3.mono hal.size))))⟩
    case measure=>simp [intOf];omega
   have hcmi:¬ (0:Int)<(cm.length:Int):=by omega
   go_upto_region 4 with (go_at_call 179;refine (HCM.out _ hal).mono ?_;rintro e w3 ⟨A3,c3,rfl,own3,hb3⟩)
   have h3:=hal.trans (hb3.mono hal.size)
   have HA3:=fA (HA.out.below h3)
   have gX3:=kA hb3 gX
   have S3:∀ V,Below w3.heap.size w3 V -> (V.cell? ⟨wr.heap.size,0,none⟩=yA (.int .i64 x1)/\V.cell? ⟨wr.heap.size,1,none⟩=yA (.int .i64 x2)/\V.cell? ⟨wr.heap.size,2,none⟩=yA (.int .u32 x3)/\V.cell? ⟨wr.heap.size,3,none⟩=yA (.slice a x4.length cc)/\V.cell? ⟨D,3,none⟩=yA (.slice c.nA c.ns.length c.nc)/\V.cell? ⟨D,13,none⟩=yA (.slice c.vA c.al.length c.vc)/\V.cell? ⟨D,9,none⟩=yA (.int .i64 c.r.2.2.2.1)):=fun V hV=>by
    have g1:=kA hV gX3
    have g2:=kA hV HA3.out.blk
    exact ⟨jA g1 0,jA g1 1,jA g1 2,jA g1 3,jA g2 3,jA g2 13,jA g2 9⟩
   have hS0:=xC w3
   go_region_held3 (fun V=>V.cell? ⟨wr.heap.size,0,none⟩=yA (.int .i64 x1)/\V.cell? ⟨wr.heap.size,1,none⟩=yA (.int .i64 x2)/\V.cell? ⟨wr.heap.size,2,none⟩=yA (.int .u32 x3)/\V.cell? ⟨wr.heap.size,3,none⟩=yA (.slice a x4.length cc)/\V.cell? ⟨D,3,none⟩=yA (.slice c.nA c.ns.length c.nc)/\V.cell? ⟨D,13,none⟩=yA (.slice c.vA c.al.length c.vc)/\V.cell? ⟨D,9,none⟩=yA (.int .i64 c.r.2.2.2.1)) (first | exact S3 _ hS0.drew | exact S3 _ hS4 | exact S3 _ hS5 | go_keep) (first
    | (go_at_call 181;((with_reducible refine (HLD.out _ (h3.trans (hS0.drew.mono h3.size))).mono ?_);rintro e w4 ⟨A4,c4,rfl,own4,hb4⟩);have hS4:=hS0.drew.trans hb4;have HL4:=fA (yB.of_own (enc:=zV) own4 (by omega)))
    | (go_at_call 184;((with_reducible refine (HEX.out _ _ _ (h3.trans (hS4.mono h3.size)) HL4.out).mono ?_);rintro e w5 ⟨rfl,hb5⟩);have hS5:=hS4.trans (hb5.mono hS4.size)))
   have h5:=h3.trans (hS5.mono h3.size)
   cases is with
   | false =>
    have HST2:jC (trimS c m'.p (x1,x2,x3,x4)=m'.p):=fA (by rw [HST.out,if_neg hcm,if_pos rfl])
    go_wp2
    go_roundw
    case rel=>exact ⟨k+1,m',by omega,by go_num,fA (by rw [HS.out,<- HP.out,HST2.out]),fA ⟨hll,by omega,by omega,by omega⟩,fA (HR.out.trans (sG.refl HA.out h5))⟩
    case measure=>simp [intOf];omega
   | true =>
    have HST2:jC (trimS c m'.p (x1,x2,x3,x4)=(m'.ls,m'.ds ++ [(1,x1,x2,x3,id,id,un)],m'.os ++ [(1,x1,x2,x3,id,id,un)],m'.xs ++ [(0,0,6,x1,id,0)])):=fA (by rw [HST.out,if_neg hcm,if_neg (by decide)])
    have HA5:=fA (HA.out.below h5)
    have gX5:=kA (hS5.trans (Below.refl _ _)) gX3
    go_upto_region 6 with fail
    have S6:∀ V,Below w5.heap.size w5 V -> (fun V:uA=>V.cell? ⟨wr.heap.size,0,none⟩=yA (.int .i64 x1)/\V.cell? ⟨wr.heap.size,1,none⟩=yA (.int .i64 x2)/\V.cell? ⟨wr.heap.size,2,none⟩=yA (.int .u32 x3)/\V.cell? ⟨D,12,none⟩=yA (.int .i64 c.t)/\V.cell? ⟨D,10,none⟩=yA (.int .i64 c.r.2.2.2.2.1)) V:=fun V hV=>by
     have g1:=kA hV gX5
     have g2:=kA hV HA5.out.blk
     exact ⟨jA g1 0,jA g1 1,jA g1 2,jA g2 12,jA g2 10⟩
    refine iC (S:=fun V:uA=>V.cell? ⟨wr.heap.size,0,none⟩=yA (.int .i64 x1)/\V.cell? ⟨wr.heap.size,1,none⟩=yA (.int .i64 x2)/\V.cell? ⟨wr.heap.size,2,none⟩=yA (.int .u32 x3)/\V.cell? ⟨D,12,none⟩=yA (.int .i64 c.t)/\V.cell? ⟨D,10,none⟩=yA (.int .i64 c.r.2.2.2.2.1)) [] (S6 _ (xC w5).drew) fun hH => ?_
    refine gU [0,101,2,103,4,105,6,7,8,9,10,111,12,13,14,15,116,17,18] ?_
    refine oU 19 fun K hK => ?_
    go_simp
    refine hK.out _ _ (S6 _ (wA w5 (uL 0 0 0 0 0 0 0)).drew) fun hH => ?_
    clear hK K
    refine oU 20 fun K hK => ?_
    go_simp
    refine hK.out _ _ (S6 _ (wA w5 (uL 1 x1 x2 x3 id id un)).drew) fun hH => ?_
    clear hK K
    refine gU [300] ?_
    go_simp
    have hb6:Below w5.heap.size w5 (w5.alloc (uL 1 x1 x2 x3 id id un)).drew:=(wA w5 (uL 1 x1 x2 x3 id id un)).drew
    have gO:=iB (rB w5 (uL 1 x1 x2 x3 id id un))
    generalize (w5.alloc (uL 1 x1 x2 x3 id id un)).drew=W6 at *
    have h6:=h5.trans (hb6.mono h5.size)
    have HU:=fA ((HA.out.below h6).below (xC W6).drew)
    have gOu:=iB gO
    have gBu:=iB (kA hb6 gX5)
    have HB6:=fA (h6.drew)
    clear gO hb6 h6 S6 S3
    go_wp2_with fail
    go_cut [] (fun wx=>∃ m1,jC (m1.p=(m'.ls,m'.ds ++ [(1,x1,x2,x3,id,id,un)],m'.os ++ [(1,x1,x2,x3,id,id,un)],m'.xs))/\jC (sG Q base D c m' m1 W6.drew wx)/\jC (wx.heap[wr.heap.size]?=yA (qN x1 x2 x3 a x4.length cc)))
    case first =>
     have hsw:wr.heap.size<=w5.heap.size:=h5.size
     obtain ⟨k0,k1,k2,k3,k4⟩:=HA.out.lts
     have hXT:w5.heap.size ∉ zB m'.oA ++ zB m'.dA:=fun hc=>by rcases xD.1 hc with q | q;have:=k3 _ q;omega;have:=k2 _ q;omega
     have hBT:wr.heap.size ∉ zB m'.oA ++ zB m'.dA:=fun hc=>by rcases xD.1 hc with q | q;have:=k3 _ q;omega;have:=k2 _ q;omega
     have hDT:D ∉ zB m'.oA ++ zB m'.dA:=fun hc=>by rcases xD.1 hc with q | q;exact HA.out.far.2.1.2.1 q;exact HA.out.far.2.1.1 q
     have hBD:wr.heap.size≠D:=by omega
     have hda:∀ x ∈ zB m'.dA,x ∉ zB m'.oA:=fun x q=>(HA.out.far.2.2.1 x q).1
     have S7:∀ V,fD (zB m'.oA ++ zB m'.dA) W6.drew V -> (fun V:uA=>V.cell? ⟨D,15,none⟩=yA (.slice m'.oA m'.os.length m'.oc)/\V.cell? ⟨D,2,none⟩=yA (.slice m'.dA m'.ds.length m'.dc)/\V.cell? ⟨w5.heap.size,0,none⟩=yA (.int .i64 1)/\V.cell? ⟨w5.heap.size,1,none⟩=yA (.int .i64 x1)/\V.cell? ⟨w5.heap.size,2,none⟩=yA (.int .i64 x2)/\V.cell? ⟨w5.heap.size,3,none⟩=yA (.int .u32 x3)/\V.cell? ⟨w5.heap.size,4,none⟩=yA (.int .i64 id)/\V.cell? ⟨w5.heap.size,5,none⟩=yA (.int .i64 id)/\V.cell? ⟨w5.heap.size,6,none⟩=yA (.int .i64 un)) V:=fun V hV=>by
      have g1:=hV.keep gOu hXT
      have g2:=hV.keep HU.out.blk hDT
      exact ⟨jA g2 15,jA g2 2,jA g1 0,jA g1 1,jA g1 2,jA g1 3,jA g1 4,jA g1 5,jA g1 6⟩
     have hD2:=HU.out.blk
     have hC0:=fD.refl (zB m'.oA ++ zB m'.dA) W6.drew
     have hus:wr.heap.size<=W6.drew.heap.size:=HB6.out.size
     refine zFa (S:=fun V:uA=>V.cell? ⟨D,15,none⟩=yA (.slice m'.oA m'.os.length m'.oc)/\V.cell? ⟨D,2,none⟩=yA (.slice m'.dA m'.ds.length m'.dc)/\V.cell? ⟨w5.heap.size,0,none⟩=yA (.int .i64 1)/\V.cell? ⟨w5.heap.size,1,none⟩=yA (.int .i64 x1)/\V.cell? ⟨w5.heap.size,2,none⟩=yA (.int .i64 x2)/\V.cell? ⟨w5.heap.size,3,none⟩=yA (.int .u32 x3)/\V.cell? ⟨w5.heap.size,4,none⟩=yA (.int .i64 id)/\V.cell? ⟨w5.heap.size,5,none⟩=yA (.int .i64 id)/\V.cell? ⟨w5.heap.size,6,none⟩=yA (.int .i64 un)) [17,18,19,20,21,22,23] ?_
     generalize W6.drew=u at *
     have hH:(fun V:uA=>V.cell? ⟨D,15,none⟩=yA (.slice m'.oA m'.os.length m'.oc)/\V.cell? ⟨D,2,none⟩=yA (.slice m'.dA m'.ds.length m'.dc)/\V.cell? ⟨w5.heap.size,0,none⟩=yA (.int .i64 1)/\V.cell? ⟨w5.heap.size,1,none⟩=yA (.int .i64 x1)/\V.cell? ⟨w5.heap.size,2,none⟩=yA (.int .i64 x2)/\V.cell? ⟨w5.heap.size,3,none⟩=yA (.int .u32 x3)/\V.cell? ⟨w5.heap.size,4,none⟩=yA (.int .i64 id)/\V.cell? ⟨w5.heap.size,5,none⟩=yA (.int .i64 id)/\V.cell? ⟨w5.heap.size,6,none⟩=yA (.int .i64 un)) _:=S7 _ hC0
     refine gU [0,1,2,3,4,105,106,9,10,11,12,113,114] ?_
     refine bU 7 15 (fun K hK => ?_) (fun K hK => ?_)
     ·go_simp
      have hCa:=hC0.alloc (uL 1 x1 x2 x3 id id un)
      have g7:=rB u (uL 1 x1 x2 x3 id id un)
      refine hK.out _ _ (S7 _ hCa) fun hH => ?_
      clear hK K
      refine bU 8 15 (fun K hK => ?_) (fun K hK => ?_)
      ·refine tG (.tmp 69) (.tmp 71) rfl cO base (.slice m'.oA m'.os.length m'.oc) m'.os.length _ (by rfl) (jB HU.out.oo (wA u (uL 1 x1 x2 x3 id id un))) (yA ⟨u.heap.size,0,none⟩) 1 1 (qL (1,x1,x2,x3,id,id,un)) (by rfl) rfl (zDw g7) (tS _) (by unfold fC;omega) (by omega) (pA HU.out.hb.2 ((wA u (uL 1 x1 x2 x3 id id un)).size)) (fun h=>by cases h) fun A5 c5 v own5 hg5 hat5 => ?_
       have C5:=tE hg5
       have hCc:=hCa.trans C5 (fun x hx=>.inl (nO _ hx))
       have h5u:∀ x ∈ zB A5,x ∈ zB m'.oA\/u.heap.size<=x:=fun x hx=>(wF hat5 x hx).imp (fun q=>q) fun q=>by (try simp only [wB] at q);omega
       have h5v:∀ x ∈ zB A5,x<v.heap.size:=fun x hx=>(qC own5 x hx).2
       have dr5:=xE (jB HU.out.dr (wA u (uL 1 x1 x2 x3 id id un))) C5 hda
       refine hK.out _ _ (S7 _ hCc) fun hH => ?_
       clear hK K
       refine oU 15 fun K hK => ?_
       go_simp
       have hCe:=hCc.alloc (uL 1 x1 x2 x3 id id un)
       have g15:=rB v (uL 1 x1 x2 x3 id id un)
       have own5:=jB own5 (wA v (uL 1 x1 x2 x3 id id un))
       refine hK.out _ _ (S7 _ hCe) fun hH => ?_
       clear hK K
       refine oU 16 fun K hK => ?_
       refine tG (.tmp 77) (.tmp 79) rfl cO base (.slice m'.dA m'.ds.length m'.dc) m'.ds.length _ (by rfl) (jB dr5 (wA v (uL 1 x1 x2 x3 id id un))) (yA ⟨v.heap.size,0,none⟩) 1 1 (qL (1,x1,x2,x3,id,id,un)) (by rfl) rfl (zDw g15) (tS _) (by unfold fC;omega) (by omega) (pA HU.out.hb.2 (hCe.size)) (fun h=>by cases h) fun A6 c6 w7 own6 hg6 hat6 => ?_
       have C6:=tE hg6
       have hCd:=hCe.trans C6 (fun x hx=>.inl (iR _ hx))
       have h65:∀ x ∈ zB A5,x ∉ zB m'.dA:=fun x hx hc=>by rcases h5u x hx with q | q;exact hda x hc q;have:=HU.out.lts.2.2.1 x hc;omega
       have own5:=xE own5 C6 h65
       have h6v:∀ x ∈ zB A6,x ∈ zB m'.dA\/v.heap.size<=x:=fun x hx=>(wF hat6 x hx).imp (fun q=>q) fun q=>by (try simp only [wB] at q);omega
       have hvs:=hCc.size
       have h6u:∀ x ∈ zB A6,x ∈ zB m'.dA\/u.heap.size<=x:=fun x hx=>(h6v x hx).imp (fun q=>q) fun q=>pA hvs q
       have h56:∀ x ∈ zB A6,x ∉ zB A5:=fun x hx hc=>by rcases h6v x hx with q | q;exact h65 x hc q;have:=h5v x hc;omega
       have gD7:=hCd.keep HU.out.blk hDT
       have hD7:=eB gD7
       have t15:=jA gD7 15
       have t15f:=qB gD7 15
       have t2:=jA gD7 2
       have t2f:=qB gD7 2
       refine hK.out _ _ (S7 _ hCd) fun hH => ?_
       clear hK K
       refine tU 17 fun K hK => ?_
       go_simp
       refine hK.out _ _ ?_
       clear hK K
       refine tU 18 fun K hK => ?_
       go_simp
       refine hK.out _ _ ?_
       clear hK K
       refine tU 19 fun K hK => ?_
       go_simp
       refine hK.out _ _ ?_
       clear hK K
       refine tU 20 fun K hK => ?_
       go_simp
       refine hK.out _ _ ?_
       clear hK K
       refine tU 21 fun K hK => ?_
       go_simp
       refine hK.out _ _ ?_
       clear hK K
       refine tU 22 fun K hK => ?_
       go_simp
       refine hK.out _ _ ?_
       clear hK K
       refine tU 23 fun K hK => ?_
       go_simp
       refine hK.out _ _ ?_
       clear hK K
       refine gU [300] ?_
       go_wp2_with fail
       go_meet
       exact ⟨_,fA rfl,fA (HU.out.two hCd own5 own6 h5u h6u h56),fA (pC (pC (hCd.keep gBu hBT) hBD _) hBD _)⟩
      ·go_simp
       have hCb:=hCa.alloc (uL 1 x1 x2 x3 id id un)
       have g7:=kA (wA (u.alloc (uL 1 x1 x2 x3 id id un)) (uL 1 x1 x2 x3 id id un)) g7
       have g15:((u.alloc (uL 1 x1 x2 x3 id id un)).alloc (uL 1 x1 x2 x3 id id un)).heap[u.heap.size+1]?=yA (uL 1 x1 x2 x3 id id un):=by have hq:=rB (u.alloc (uL 1 x1 x2 x3 id id un)) (uL 1 x1 x2 x3 id id un);rw [wB] at hq;exact hq
       refine hK.out _ _ (S7 _ hCb) fun hH => ?_
       clear hK K
       refine oU 8 fun K hK => ?_
       refine tG (.tmp 69) (.tmp 71) rfl cO base (.slice m'.oA m'.os.length m'.oc) m'.os.length _ (by rfl) (jB (jB HU.out.oo (wA u (uL 1 x1 x2 x3 id id un))) (wA (u.alloc (uL 1 x1 x2 x3 id id un)) (uL 1 x1 x2 x3 id id un))) (yA ⟨u.heap.size,0,none⟩) 1 1 (qL (1,x1,x2,x3,id,id,un)) (by rfl) rfl (zDw g7) (tS _) (by unfold fC;omega) (by omega) (pA HU.out.hb.2 (hCb.size)) (fun h=>by cases h) fun A5 c5 v own5 hg5 hat5 => ?_
       have C5:=tE hg5
       have hCc:=hCb.trans C5 (fun x hx=>.inl (nO _ hx))
       have h5u:∀ x ∈ zB A5,x ∈ zB m'.oA\/u.heap.size<=x:=fun x hx=>(wF hat5 x hx).imp (fun q=>q) fun q=>by (try simp only [wB] at q);omega
       have h5v:∀ x ∈ zB A5,x<v.heap.size:=fun x hx=>(qC own5 x hx).2
       have dr5:=xE (jB (jB HU.out.dr (wA u (uL 1 x1 x2 x3 id id un))) (wA (u.alloc (uL 1 x1 x2 x3 id id un)) (uL 1 x1 x2 x3 id id un))) C5 hda
       have hCe:=hCc
       have g15:=C5.keep g15 (fun hc=>by have:=HU.out.lts.2.2.2.1 _ hc;omega)
       refine hK.out _ _ (S7 _ hCc) fun hH => ?_
       clear hK K
       refine oU 16 fun K hK => ?_
       refine tG (.tmp 77) (.tmp 79) rfl cO base (.slice m'.dA m'.ds.length m'.dc) m'.ds.length _ (by rfl) (dr5) (yA ⟨u.heap.size+1,0,none⟩) 1 1 (qL (1,x1,x2,x3,id,id,un)) (by rfl) rfl (zDw g15) (tS _) (by unfold fC;omega) (by omega) (pA HU.out.hb.2 (hCe.size)) (fun h=>by cases h) fun A6 c6 w7 own6 hg6 hat6 => ?_
       have C6:=tE hg6
       have hCd:=hCe.trans C6 (fun x hx=>.inl (iR _ hx))
       have h65:∀ x ∈ zB A5,x ∉ zB m'.dA:=fun x hx hc=>by rcases h5u x hx with q | q;exact hda x hc q;have:=HU.out.lts.2.2.1 x hc;omega
       have own5:=xE own5 C6 h65
       have h6v:∀ x ∈ zB A6,x ∈ zB m'.dA\/v.heap.size<=x:=fun x hx=>(wF hat6 x hx).imp (fun q=>q) fun q=>by (try simp only [wB] at q);omega
       have hvs:=hCc.size
       have h6u:∀ x ∈ zB A6,x ∈ zB m'.dA\/u.heap.size<=x:=fun x hx=>(h6v x hx).imp (fun q=>q) fun q=>pA hvs q
       have h56:∀ x ∈ zB A6,x ∉ zB A5:=fun x hx hc=>by rcases h6v x hx with q | q;exact h65 x hc q;have:=h5v x hc;omega
       have gD7:=hCd.keep HU.out.blk hDT
       have hD7:=eB gD7
       have t15:=jA gD7 15
       have t15f:=qB gD7 15
       have t2:=jA gD7 2
       have t2f:=qB gD7 2
       refine hK.out _ _ (S7 _ hCd) fun hH => ?_
       clear hK K
       refine tU 17 fun K hK => ?_
       go_simp
       refine hK.out _ _ ?_
       clear hK K
       refine tU 18 fun K hK => ?_
       go_simp
       refine hK.out _ _ ?_
       clear hK K
       refine tU 19 fun K hK => ?_
       go_simp
       refine hK.out _ _ ?_
       clear hK K
       refine tU 20 fun K hK => ?_
       go_simp
       refine hK.out _ _ ?_
       clear hK K
       refine tU 21 fun K hK => ?_
       go_simp
       refine hK.out _ _ ?_
       clear hK K
       refine tU 22 fun K hK => ?_
       go_simp
       refine hK.out _ _ ?_
       clear hK K
       refine tU 23 fun K hK => ?_
       go_simp
       refine hK.out _ _ ?_
       clear hK K
       refine gU [300] ?_
       go_wp2_with fail
       go_meet
       exact ⟨_,fA rfl,fA (HU.out.two hCd own5 own6 h5u h6u h56),fA (pC (pC (hCd.keep gBu hBT) hBD _) hBD _)⟩
     ·go_simp
      have hCa:=hC0.alloc (uL 1 x1 x2 x3 id id un)
      have g15:=rB u (uL 1 x1 x2 x3 id id un)
      refine hK.out _ _ (S7 _ hCa) fun hH => ?_
      clear hK K
      refine oU 7 fun K hK => ?_
      go_simp
      have hCb:=hCa.alloc (uL 1 x1 x2 x3 id id un)
      have g15:=kA (wA (u.alloc (uL 1 x1 x2 x3 id id un)) (uL 1 x1 x2 x3 id id un)) g15
      have g7:((u.alloc (uL 1 x1 x2 x3 id id un)).alloc (uL 1 x1 x2 x3 id id un)).heap[u.heap.size+1]?=yA (uL 1 x1 x2 x3 id id un):=by have hq:=rB (u.alloc (uL 1 x1 x2 x3 id id un)) (uL 1 x1 x2 x3 id id un);rw [wB] at hq;exact hq
      refine hK.out _ _ (S7 _ hCb) fun hH => ?_
      clear hK K
      refine oU 8 fun K hK => ?_
      refine tG (.tmp 69) (.tmp 71) rfl cO base (.slice m'.oA m'.os.length m'.oc) m'.os.length _ (by rfl) (jB (jB HU.out.oo (wA u (uL 1 x1 x2 x3 id id un))) (wA (u.alloc (uL 1 x1 x2 x3 id id un)) (uL 1 x1 x2 x3 id id un))) (yA ⟨u.heap.size+1,0,none⟩) 1 1 (qL (1,x1,x2,x3,id,id,un)) (by rfl) rfl (zDw g7) (tS _) (by unfold fC;omega) (by omega) (pA HU.out.hb.2 (hCb.size)) (fun h=>by cases h) fun A5 c5 v own5 hg5 hat5 => ?_
      have C5:=tE hg5
      have hCc:=hCb.trans C5 (fun x hx=>.inl (nO _ hx))
      have h5u:∀ x ∈ zB A5,x ∈ zB m'.oA\/u.heap.size<=x:=fun x hx=>(wF hat5 x hx).imp (fun q=>q) fun q=>by (try simp only [wB] at q);omega
      have h5v:∀ x ∈ zB A5,x<v.heap.size:=fun x hx=>(qC own5 x hx).2
      have dr5:=xE (jB (jB HU.out.dr (wA u (uL 1 x1 x2 x3 id id un))) (wA (u.alloc (uL 1 x1 x2 x3 id id un)) (uL 1 x1 x2 x3 id id un))) C5 hda
      have hCe:=hCc
      have g15:=C5.keep g15 (fun hc=>by have:=HU.out.lts.2.2.2.1 _ hc;omega)
      refine hK.out _ _ (S7 _ hCc) fun hH => ?_
      clear hK K
      refine oU 16 fun K hK => ?_
      refine tG (.tmp 77) (.tmp 79) rfl cO base (.slice m'.dA m'.ds.length m'.dc) m'.ds.length _ (by rfl) (dr5) (yA ⟨u.heap.size,0,none⟩) 1 1 (qL (1,x1,x2,x3,id,id,un)) (by rfl) rfl (zDw g15) (tS _) (by unfold fC;omega) (by omega) (pA HU.out.hb.2 (hCe.size)) (fun h=>by cases h) fun A6 c6 w7 own6 hg6 hat6 => ?_
      have C6:=tE hg6
      have hCd:=hCe.trans C6 (fun x hx=>.inl (iR _ hx))
      have h65:∀ x ∈ zB A5,x ∉ zB m'.dA:=fun x hx hc=>by rcases h5u x hx with q | q;exact hda x hc q;have:=HU.out.lts.2.2.1 x hc;omega
      have own5:=xE own5 C6 h65
      have h6v:∀ x ∈ zB A6,x ∈ zB m'.dA\/v.heap.size<=x:=fun x hx=>(wF hat6 x hx).imp (fun q=>q) fun q=>by (try simp only [wB] at q);omega
      have hvs:=hCc.size
      have h6u:∀ x ∈ zB A6,x ∈ zB m'.dA\/u.heap.size<=x:=fun x hx=>(h6v x hx).imp (fun q=>q) fun q=>pA hvs q
      have h56:∀ x ∈ zB A6,x ∉ zB A5:=fun x hx hc=>by rcases h6v x hx with q | q;exact h65 x hc q;have:=h5v x hc;omega
      have gD7:=hCd.keep HU.out.blk hDT
      have hD7:=eB gD7
      have t15:=jA gD7 15
      have t15f:=qB gD7 15
      have t2:=jA gD7 2
      have t2f:=qB gD7 2
      refine hK.out _ _ (S7 _ hCd) fun hH => ?_
      clear hK K
      refine tU 17 fun K hK => ?_
      go_simp
      refine hK.out _ _ ?_
      clear hK K
      refine tU 18 fun K hK => ?_
      go_simp
      refine hK.out _ _ ?_
      clear hK K
      refine tU 19 fun K hK => ?_
      go_simp
      refine hK.out _ _ ?_
      clear hK K
      refine tU 20 fun K hK => ?_
      go_simp
      refine hK.out _ _ ?_
      clear hK K
      refine tU 21 fun K hK => ?_
      go_simp
      refine hK.out _ _ ?_
      clear hK K
      refine tU 22 fun K hK => ?_
      go_simp
      refine hK.out _ _ ?_
      clear hK K
      refine tU 23 fun K hK => ?_
      go_simp
      refine hK.out _ _ ?_
      clear hK K
      refine gU [300] ?_
      go_wp2_with fail
      go_meet
      exact ⟨_,fA rfl,fA (HU.out.two hCd own5 own6 h5u h6u h56),fA (pC (pC (hCd.keep gBu hBT) hBD _) hBD _)⟩
    case rest =>
     obtain ⟨m1,HP1,HR1,GB1⟩:=hcut
     have hm1:m1.ls.length<=100/\m1.ds.length<=N+(k+1)/\m1.os.length<=N+(k+1)/\m1.xs.length<=N+k:=by
      have q:=HP1.out
      simp only [uQ.p,cX] at q
      obtain ⟨q1,q2,q3,q4⟩:=q
      rw [q1,q2,q3,q4,kB,kB]
      simp only [List.length_singleton]
      omega
     obtain ⟨hm1l,hm1d,hm1o,hm1x⟩:=hm1
     have HV:=fA (HR1.out.at_.below (xC wc).drew)
     have gBv:=iB GB1.out
     have hBX:wr.heap.size ∉ zB m1.xA:=fun hc=>by
      have hq:wr.heap.size ∈ m1.S D:=uQ.inS.2 (.inr (.inr (.inr hc)))
      have hlt:=HB6.out.size
      have hW:wr.heap.size<W6.drew.heap.size:=eB gBu
      rcases HR1.out.fr _ hq with r | r
      ·rw [uQ.inS] at r
       obtain ⟨k0,k1,k2,k3,k4⟩:=HA.out.lts
       rcases r with r | r | r | r
       ·omega
       ·have:=k2 _ r;omega
       ·have:=k3 _ r;omega
       ·have:=k4 _ r;omega
      ·omega
     have S8:∀ V,fD (zB m1.xA) wc.drew V -> (fun V:uA=>V.cell? ⟨D,16,none⟩=yA (.slice m1.xA m1.xs.length m1.xc)/\V.cell? ⟨wr.heap.size,0,none⟩=yA (.int .i64 x1)) V:=fun V hV=>by
      have g1:=hV.keep gBv hBX
      have g2:=hV.keep HV.out.blk HV.out.far.2.1.2.2
      exact ⟨jA g2 16,jA g1 0⟩
     have hC0:=fD.refl (zB m1.xA) wc.drew
     go_wp2_with fail
     refine zFa (S:=fun V:uA=>V.cell? ⟨D,16,none⟩=yA (.slice m1.xA m1.xs.length m1.xc)/\V.cell? ⟨wr.heap.size,0,none⟩=yA (.int .i64 x1)) [11,12,13] ?_
     generalize hu2:wc.drew=u2 at *
     have hH:(fun V:uA=>V.cell? ⟨D,16,none⟩=yA (.slice m1.xA m1.xs.length m1.xc)/\V.cell? ⟨wr.heap.size,0,none⟩=yA (.int .i64 x1)) _:=S8 _ hC0
     refine gU [0,1,2,3,104,5,106,7,8] ?_
     refine oU 9 fun K hK => ?_
     go_simp
     have hCa:=hC0.alloc (zPR 0 0 6 x1 id 0)
     have g9:=rB u2 (zPR 0 0 6 x1 id 0)
     refine hK.out _ _ (S8 _ hCa) fun hH => ?_
     clear hK K
     refine oU 10 fun K hK => ?_
     refine tG (.tmp 90) (.tmp 95) rfl zJQ base (.slice m1.xA m1.xs.length m1.xc) m1.xs.length _ (by rfl) (jB HV.out.xo (wA u2 (zPR 0 0 6 x1 id 0))) (yA ⟨u2.heap.size,0,none⟩) 1 1 (zEw (0,0,6,x1,id,0)) (by rfl) rfl (zRv g9) (zJK _) (by unfold fC;omega) (by omega) (pA HV.out.hb.2 hCa.size) (fun h=>by cases h) fun A7 c7 w9 own7 hg7 hat7 => ?_
     have hCb:=hCa.trans (tE hg7) (fun x hx=>.inl hx)
     have h7u:∀ x ∈ zB A7,x ∈ zB m1.xA\/u2.heap.size<=x:=fun x hx=>(wF hat7 x hx).imp (fun q=>q) fun q=>by rw [wB] at q;omega
     have gD9:=hCb.keep HV.out.blk HV.out.far.2.1.2.2
     have hD9:=eB gD9
     have t16:=jA gD9 16
     have t16f:=qB gD9 16
     refine hK.out _ _ (S8 _ hCb) fun hH => ?_
     clear hK K
     refine tU 11 fun K hK => ?_
     go_simp
     refine hK.out _ _ ?_
     clear hK K
     refine tU 12 fun K hK => ?_
     go_simp
     refine hK.out _ _ ?_
     clear hK K
     refine tU 13 fun K hK => ?_
     go_simp
     refine hK.out _ _ ?_
     clear hK K
     refine gU [300] ?_
     go_wp2
     go_roundw
     case rel=>exact ⟨k+1,{ m1 with xs:=m1.xs ++ [(0,0,6,x1,id,0)],xA:=A7,xc:=c7 },by omega,by go_num,fA (by
      have q:=HP1.out
      simp only [uQ.p,cX] at q
      obtain ⟨q1,q2,q3,q4⟩:=q
      rw [HS.out,<- HP.out,HST2.out]
      simp only [uQ.p,q1,q2,q3,q4]),fA ⟨hm1l,by simpa using hm1d,by simpa using hm1o,by rw [kB];simp;omega⟩,fA (HR.out.trans ((sG.refl HA.out HB6.out).trans (HR1.out.trans ((sG.refl HR1.out.at_ (by rw [<- hu2];exact (xC wc).drew)).trans (HV.out.onx hCb own7 h7u)))))⟩
     case measure=>simp [intOf];omega
  ·have hk1:¬ (k:Int)<(c.se.length:Int):=by omega
   have hke:k=c.se.length:=by omega
   subst hke
   rw [List.take_of_length_le (Nat.le_refl _)] at HP
   go_wp2
   go_end0
   exact ⟨rfl,m',HP.out,HN.out,HR.out⟩
end Go.Proofs.YtogbpifcmhafkaaGreat
