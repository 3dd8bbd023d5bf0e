/-
 Part PZD of the proof.
-/
import Derived.Test.YtogbpifcmhafkaaGreatPZB
import Derived.Test.YtogbpifcmhafkaaGreatPV
open Array renaming replicate_succ->nI,replicate_zero->mI
open Go renaming TypeId->tC,Value->uB,World->uA,callsIn_of_wp_marks->iP,callsIn_wide->lE,ownFrom_below->kQ,run_takeDeferred->bP,undef->vB,wpIn_rangeFunc_ownH->jQ
open Go.Fence renaming wide->uM
open Go.Instr renaming lookup->eE
open Go.KeepsOthers renaming alloc->kO,of_grownBy->mK,setCell->sE
open Go.Lib renaming hid->fA
open Go.Lit renaming int->cE
open Go.Oper renaming semAt_some->dL
open Go.OwnFrom renaming and->zAN
open Go.RowKit renaming Hid->jC
open Go.RowKit.Below renaming refl->cC
open Go.World renaming ownsRow_nil->nB,putObj_heap_other->eF,size_alloc->wB
open List renaming append_toArray->pJ,cons_append->zL,find?_eq_none->zCm,getElem_mem->wC,length_append->kB,length_cons->qD,length_filter_le->eC,length_map->mC,length_nil->sH,mem_filter->vI,mem_map->jJ,nil_append->wE,push_toArray->xK,size_toArray->qJ,take_succ_eq_append_getElem->tB
open Nat renaming le_refl->mA,le_trans->pA,lt_of_lt_of_le->tA,reduceAdd->iJ,reduceSub->oN
open Option renaming some->yA
namespace Go.Proofs.YtogbpifcmhafkaaGreat
open Go.RowKit Tryz
open Go.Lib(hid)
set_option linter.unusedVariables false
set_option linter.unusedSimpArgs false
set_option maxRecDepth 100000
set_option maxHeartbeats 16000000
section
open Go.Shelf
attribute [local go_sem] dL
def Sv.flag (v:Sv) (x:Rp):Rp × Bool:=(x,U (sum (v.f x.1 false)) != x.2.2.1)
def Sv.heldL (v:Sv):List (Rp × Bool):=v.report.map v.flag
theorem zAj (v:Sv):v.report.length<=v.l.length:=by
 unfold Sv.report nE
 exact pA (eC _ _) (jL v.l)
theorem zFb (v:Sv):∀ x ∈ v.report,x ∈ v.l:=fun x hx=>by
 unfold Sv.report nE at hx
 have h1:=(vI.1 hx).1
 unfold rD at h1
 split at h1
 ·exact h1
 ·cases h1
theorem zOX {w:uA} {base:Nat} {e:tC} {k:Nat} {A:Option Addr} {n c m:Nat} {xs:List uB} (h:w.ownsRow base e k (.slice A n c) m xs) (hA:A=none):n=0:=by
 rcases h.2 with ⟨h2,_⟩ | ⟨g,cap,cur,hv,_⟩
 ·injection h2
 ·injection hv with h1;rw [hA] at h1;cases h1
theorem zPa {B:Nat -> Prop} {T:tC} {W W':uA} {M n:Nat} {f:Int -> Bool -> uB} (h:xN W M n f) (hk:zDV B T W W') (hM:B M):xN W' M n f:=by
 have hlt:=h.lt
 obtain ⟨D,⟨es,clock,hb,r⟩,h2⟩:=h
 exact ⟨D,⟨es,clock,by rw [hk.2.1 M hM hlt];exact hb,r⟩,h2⟩
theorem zQN {B:Nat -> Prop} {T:tC} {w w':uA} {A:Option Addr} {xs:List uB} (h:dC w A xs) (hk:zDV B T w w') (hB:∀ x ∈ zB A,B x):dC w' A xs:=by
 rcases h with h | ⟨b,off,rfl,hlt,hx⟩
 ·exact .inl h
 ·exact .inr ⟨b,off,rfl,tA hlt hk.1,fun i u hi=>by rw [kZ hk (hB b (by simp [zB])) hlt];exact hx i u hi⟩
theorem zOj (n l BS s:Nat) (B:Nat -> Prop) (R:Nat -> Prop) (L:SL) (v:Sv) (J Jx:List (Rp × Bool) -> uA -> Prop) (W:uA)
  (hY:∀ pre x W1,J pre W1 -> pre.length<v.l.length+1 -> YieldAt uM (n - 1) prog l #[.agg #[.int .i64 x.1.1,.int .i64 x.1.2.1,.int .u32 x.1.2.2.1,.bool x.1.2.2.2.1,.bool x.1.2.2.2.2],.bool x.2] W1 fun e W'=>(e=.returned (.bool true)/\J (pre ++ [x]) W'/\zDV B 124 W1 W')\/(e=.returned (.bool false)/\Jx (pre ++ [x]) W'))
  (hS:BS<W.heap.size) (hSB:B BS) (cS:W.cell? ⟨BS,0,none⟩=yA (.pointer (yA ⟨s,0,none⟩))) (hO:∀ x,L.own s x -> B x) (h:qS R W s L v) (ho:bH v) (hJ:AbidesFrom W.heap.size J) (h0:J [] W) :
  CallsIn uM n prog 147 #[.func (.yield l) #[] #[],.pointer (yA ⟨BS,0,none⟩)] W fun e W'=>(∃ v,e=.returned v)/\((∃ ys,ys=v.heldL/\J ys W')\/(∃ pre,pre <+: v.heldL/\Jx pre W')):=by
 have c1:=jA h.blk 1
 have HR:=fA (zDg L.lA L.lc v.l W h.rl.1)
 have hfl:=zAj v
 have HSB:=fA (zFb v)
 have HO:=fA ho.ids
 have hl16:=ho.l
 have HBL:=fA h.blk
 have HMP:=fA h.mp
 have HRW:=fA h.rows
 have hsl:s<W.heap.size:=eB h.blk
 have HOW:=fA hO
 have HF64:=fA ho.f
 unfold Sv.heldL
 change jC (Calls _ _ _ _ (mD _ _ v.report.length (flat fJ v.report) W)) at HR
 generalize v.report=ys at *
 clear h hO ho
 refine callsIn_of_wp func147 rfl trivial ?_ rfl
 simp only [ntmps147,qJ,qD,sH,iJ,oN,nI,mI,xK,pJ,wE,zL]
 have hfn:∀ k,Fence.wide.fn k:=fun _=>trivial
 have hdp:Fence.wide.depth=none:=rfl
 gi_wp2_with (gi_at_call 134;refine (lE.2 HR.out).mono ?_;rintro e w1 ⟨A1,c1',rfl,own1,hb1⟩)
 have HSM:=fA (fun (A:Option Addr) (c:Nat) (bs:List UInt8) (V:uA) (h:bJ V A bs) (hl:bs.length<=1000000)=>(lE (n:=n - 1)).2 (zBG A c bs V h hl))
 have O1:=fA own1
 have K0:=fA (show zDV B 124 w1 w1 from oM (xC w1))
 have KW1:=fA (show zDV B 124 W w1 from oM hb1)
 have HY:=fA hY
 have HJ:=fA hJ
 have J1:=fA (hJ [] W w1 none h0 (nG hb1) (fun r e=>by cases e))
 have hs1:=hb1.size
 have eS:=fA cS
 clear own1 hY hJ h0 cS HR hb1 c1
 gi_loopw [4,11] (fun v4 i wr=>∃ (k:Nat),k<=ys.length/\i=.int .i64 (k:Int)/\jC (J ((ys.take k).map v.flag) wr)/\jC (zDV B 124 w1 wr)/\w1.heap.size<=wr.heap.size) (fun _ i _=>ys.length - (intOf i).toNat)
 case atStart=>exact ⟨0,by omega,rfl,J1,K0,mA _⟩
 case round =>
  clear J1 K0
  obtain ⟨k,hk,rfl,JK,KK,hsz⟩:=hrel
  have hk0:(0:Int)<=(k:Int):=by omega
  by_cases hlt:k<ys.length
  ·have hk1:(k:Int)<(ys.length:Int):=by omega
   have HWF:=fA (HO.out _ (HSB.out _ (wC hlt)))
   have HFT:jC ((ys.take (k+1)).map v.flag=(ys.take k).map v.flag ++ [v.flag (ys[k]'hlt)]):=fA (by rw [tB hlt,List.map_append];rfl)
   obtain ⟨b,off,rfl,blt,d0,d1,d2,d3,d4⟩:=rR (yB.of_own (enc:=fJ) (zLq O1.out KK.out) (by omega)) hlt
   have KWr:=fA (eV KW1.out KK.out)
   generalize (ys[k]'hlt)=x at *
   obtain ⟨x1,x2,x3,x4,x5⟩:=x
   simp only at d0 d1 d2 d3 d4 HWF
   have hal:=wA wr (zPS x1 x2 x3 x4 x5)
   have GX:=fA (rB wr (zPS x1 x2 x3 x4 x5))
   have KW2:=fA (eV KWr.out (oM hal))
   have JK2:=fA (HJ.out _ wr _ none JK.out (nG hal) (fun r e=>by cases e))
   have KK2:=fA (eV KK.out (oM hal))
   have hsz2:w1.heap.size<=(wr.alloc (zPS x1 x2 x3 x4 x5)).heap.size:=pA hsz hal.size
   clear JK KK KWr
   have hfl2:v.flag (x1,x2,x3,x4,x5)=((x1,x2,x3,x4,x5),U (sum (v.f x1 false)) != x3):=rfl
   rw [hfl2] at HFT
   clear hfl2
   have hlen:=HF64.out x1 false
   gi_upto_region 3 with fail
   generalize wr.alloc (zPS x1 x2 x3 x4 x5)=W2 at *
   have hrow:bJ W2 (L.g x1 false).1 (v.f x1 false):=zQN (dC.of_own (HRW.out x1 false)) KW2.out (fun x hx=>HOW.out x (.inr (.inr ⟨x1,false,hx⟩)))
   have hmp:=zPa HMP.out KW2.out (HOW.out _ (.inr (.inl rfl)))
   have hblk:=(KW2.out.2.1 s (HOW.out s (.inl rfl)) hsl).trans HBL.out
   have eS2:=(kZ (o:=0) KW2.out hSB hS).trans eS.out
   have hbsl:BS<W2.heap.size:=tA hS KW2.out.1
   have HLK:=fA (fun (w3:uA) (hb3:Below W2.heap.size W2 w3)=>(hmp.below hb3).look HWF.out false)
   generalize L.g x1 false=g at *
   obtain ⟨ga,gc⟩:=g
   generalize v.f x1 false=bs at *
   have HSU:=fA (HSM.out ga gc bs W2.drew hrow.drew (by omega))
   have HS3:jC (∀ w3,Below W2.drew.heap.size W2.drew w3 -> (fun V:uA=>V.cell? ⟨BS,0,none⟩=yA (.pointer (yA ⟨s,0,none⟩))/\V.cell? ⟨s,2,none⟩=yA (.map (yA L.M))/\V.cell? ⟨wr.heap.size,0,none⟩=yA (.int .i64 x1)/\V.cell? ⟨wr.heap.size,1,none⟩=yA (.int .i64 x2)/\V.cell? ⟨wr.heap.size,2,none⟩=yA (.int .u32 x3)/\V.cell? ⟨wr.heap.size,3,none⟩=yA (.bool x4)/\V.cell? ⟨wr.heap.size,4,none⟩=yA (.bool x5)/\(eE 135 (.map (yA L.M)) (.agg #[x1,.bool false]) false).run prog V=.ok (.slice ga bs.length gc) V) w3):=fA fun w3 hb3'=>by
    have hb3:Below W2.heap.size W2 w3:=⟨hb3'.os,hb3'.tape,hb3'.output,hb3'.size,hb3'.block⟩
    obtain ⟨p0,p1,p2,p3,p4,_⟩:=yG (kA hb3 GX.out)
    exact ⟨((bcell hb3).1 BS 0 hbsl).trans eS2,jA (kA hb3 hblk) 2,p0,p1,p2,p3,p4,HLK.out w3 hb3⟩
   have hS2:(fun V:uA=>V.cell? ⟨BS,0,none⟩=yA (.pointer (yA ⟨s,0,none⟩))/\V.cell? ⟨s,2,none⟩=yA (.map (yA L.M))/\V.cell? ⟨wr.heap.size,0,none⟩=yA (.int .i64 x1)/\V.cell? ⟨wr.heap.size,1,none⟩=yA (.int .i64 x2)/\V.cell? ⟨wr.heap.size,2,none⟩=yA (.int .u32 x3)/\V.cell? ⟨wr.heap.size,3,none⟩=yA (.bool x4)/\V.cell? ⟨wr.heap.size,4,none⟩=yA (.bool x5)/\(eE 135 (.map (yA L.M)) (.agg #[x1,.bool false]) false).run prog V=.ok (.slice ga bs.length gc) V) W2.drew:=HS3.out W2.drew (xC _)
   clear hblk hmp hrow HLK
   refine jW (S:=fun V:uA=>V.cell? ⟨BS,0,none⟩=yA (.pointer (yA ⟨s,0,none⟩))/\V.cell? ⟨s,2,none⟩=yA (.map (yA L.M))/\V.cell? ⟨wr.heap.size,0,none⟩=yA (.int .i64 x1)/\V.cell? ⟨wr.heap.size,1,none⟩=yA (.int .i64 x2)/\V.cell? ⟨wr.heap.size,2,none⟩=yA (.int .u32 x3)/\V.cell? ⟨wr.heap.size,3,none⟩=yA (.bool x4)/\V.cell? ⟨wr.heap.size,4,none⟩=yA (.bool x5)/\(eE 135 (.map (yA L.M)) (.agg #[x1,.bool false]) false).run prog V=.ok (.slice ga bs.length gc) V) 14 hS2 fun hH => ?_
   refine gW [100,101,102,103,104,105,106,107,108,109,111,112] ?_
   refine oW 10 fun K hK => ?_
   go_simp
   gi_wp2_with (gi_at_call 32;refine HSU.out.mono ?_;rintro e w3 ⟨rfl,hb3d⟩;have hS3:=HS3.out w3 hb3d;have hb3:Below W2.heap.size W2 w3:=⟨hb3d.os,hb3d.tape,hb3d.output,hb3d.size,hb3d.block⟩)
   refine hK _ _ hS3 fun hH => ?_
   clear hK K
   try simp only [nP]
   refine gW [113] ?_
   refine xW ?_
   refine tR 14 fun K hK => ?_
   go_simp
   obtain ⟨fn,ftm,fas,fbo,hy,hR⟩:=HY.out _ ((x1,x2,x3,x4,x5),U (sum bs) != x3) w3 (HJ.out _ W2 w3 none JK2.out (nG hb3) (fun r e=>by cases e)) (by rw [mC,List.length_take];omega)
   dsimp only at hy
   rw [hy]
   simp only [Oper.uponIn_round]
   refine ⟨fun h=>(by rw [hdp] at h;cases h),hR.mono ?_⟩
   rintro e w4 (⟨rfl,hJ4,hk4⟩ | ⟨rfl,hJx4⟩)
   all_goals (refine hK _ _ ?_)
   all_goals (clear hK K)
   all_goals (try simp only [nP])
   all_goals (refine tR 15 fun K hK => ?_)
   all_goals (go_simp)
   all_goals (refine hK _ _ ?_)
   all_goals (clear hK K)
   all_goals (try simp only [nP])
   all_goals (refine dR ?_)
   all_goals gi_wp2
   ·go_roundw
    case rel=>exact ⟨k+1,by omega,by go_num,fA (by rw [HFT.out];exact hJ4),fA (eV KK2.out (eV (oM hb3) hk4)),pA hsz2 (pA hb3.size hk4.1)⟩
    case measure=>simp [intOf];omega
   ·refine bodyPost_ret (results_none rfl _ _ _) rfl ?_
    exact ⟨⟨_,rfl⟩,.inr ⟨_,by rw [<- HFT.out];exact (List.take_prefix _ _).map _,hJx4⟩⟩
  ·have hk1:¬ (k:Int)<(ys.length:Int):=by omega
   have hke:k=ys.length:=by omega
   subst hke
   rw [List.take_of_length_le (mA _)] at JK
   gi_wp2
   go_end0
   exact ⟨⟨_,rfl⟩,.inl JK.out⟩
theorem zEG (n BS s:Nat) (B:Nat -> Prop) (R:Nat -> Prop) (L:SL) (v:Sv) (w:uA) (hS:BS<w.heap.size) (hSB:B BS) (cS:w.cell? ⟨BS,0,none⟩=yA (.pointer (yA ⟨s,0,none⟩))) (hO:∀ x,L.own s x -> B x) (h:qS R w s L v) (ho:bH v) :
  SeqStopsK uM n prog 147 #[(BS,0)] (fun x:Rp × Bool=>#[Value.agg #[x.1.1,x.1.2.1,.int .u32 x.1.2.2.1,.bool x.1.2.2.2.1,.bool x.1.2.2.2.2],Value.bool x.2]) (zDV B 124) (fun ys=>ys=v.heldL) (fun pre=>pre <+: v.heldL) (v.l.length+1) w:=fun l J Jx W hW hJ _ hY h0 =>
 zOj n l BS s B R L v J Jx W hY (tA hS hW.size) hSB (((bcell hW).1 BS 0 hS).trans cS) hO (h.below hW) ho hJ h0
theorem zFk (s:Nat) (w:uA):Calls prog 75 #[(s,0)] w fun e w'=>e=.returned (.func (.func 147) #[] #[(w.heap.size,0)])/\w'=w.alloc (.cells #[(s,0)] 71):=by
 go_enter func75,ntmps75
 go_wp2
 go_ret
 exact ⟨rfl,rfl⟩
end
section
open Go.Shelf
attribute [local go_sem] dL
def Sv.readOf (v:Sv) (x:Rp × Bool):List UInt8 × Int × Int:=if x.2 then ([],0,4) else (v.f x.1.1 false,x.1.2.1,0)
def Sv.read (v:Sv) (t:Int):List UInt8 × Int × Int:=((v.heldL.find? (fun x=>decide (x.1.1=t))).map v.readOf).getD ([],0,5)
def RetRd (r:List UInt8 × Int × Int) (w:uA) (e:Ending) (w':uA):Prop:=∃ A c,e=.returned (.tuple #[.slice A r.1.length c,r.2.1,r.2.2])/\w'.ownsRow w.heap.size 5 1 (.slice A r.1.length c) r.1.length (r.1.map pI)/\Below w.heap.size w w'
def NoId (t:Int) (pre:List (Rp × Bool)):Prop:=∀ p ∈ pre,p.1.1≠t
def RdIx (v:Sv) (t:Int) (w:uA) (cd:Code) (pre:List (Rp × Bool)) (W:uA):Prop:=cd=Code.ret/\∃ ini x A c,pre=ini ++ [x]/\NoId t ini/\x.1.1=t/\W.heap[w.heap.size+2]?=yA (.cells #[.slice A (v.readOf x).1.length c] 33)/\W.heap[w.heap.size+3]?=yA (.cells #[.int .i64 (v.readOf x).2.1] 3)/\W.heap[w.heap.size+4]?=yA (.cells #[.int .i64 (v.readOf x).2.2] 27)/\W.ownsRow w.heap.size 5 1 (.slice A (v.readOf x).1.length c) (v.readOf x).1.length ((v.readOf x).1.map pI)/\Below w.heap.size w W
theorem zMB {w w':uA} {base:Nat} {e:tC} {k:Nat} {A:Option Addr} {n c m:Nat} {xs:List uB} {row:Option Nat} (h:w.ownsRow base e k (.slice A n c) m xs) (hg:w.grownBy w' row) (hr:∀ r,row=yA r -> ∃ o:Obj,w.heap[r]?=yA o/\o.isCells=false):w'.ownsRow base e k (.slice A n c) m xs:=by
 refine ⟨h.1,h.2.imp id ?_⟩
 rintro ⟨g,c,cur,hv,hg',hh,r⟩
 refine ⟨g,c,cur,hv,hg',(hg.block g (eB hh) (fun e => ?_)).trans hh,r⟩
 obtain ⟨o,ho,hc⟩:=hr g e.symm
 rw [hh] at ho
 cases ho
 cases hc
theorem res3 {fn:Func} {p1 p2 p3:Tmp} {tmps:Array uB} {w:uA} {F G H:Nat} {A:Option Addr} {n c:Nat} {b e:Int} (hf:fn.results=#[.cell p1 33,.cell p2 3,.cell p3 27]) (h1:tmps[p1]?.getD vB=.pointer (yA ⟨F,0,none⟩)) (h2:tmps[p2]?.getD vB=.pointer (yA ⟨G,0,none⟩)) (h3:tmps[p3]?.getD vB=.pointer (yA ⟨H,0,none⟩))
  (k1:w.heap[F]?=yA (.cells #[.slice A n c] 33)) (k2:w.heap[G]?=yA (.cells #[b] 3)) (k3:w.heap[H]?=yA (.cells #[e] 27)):(results fn tmps).run prog w=.ok (.tuple #[.slice A n c,b,e]) w:=by
 have e1:=jA k1 0
 have e2:=jA k2 0
 have e3:=jA k3 0
 simp [results,hf,h1,h2,h3,e1,e2,e3,go_sem,Result.andThen]
theorem zPs {b:Nat} (W:uA) {v2 v3 v4:uB} {t2 t3 t4:tC} (k2:W.heap[b+2]?=yA (.cells #[v2] t2)) (k3:W.heap[b+3]?=yA (.cells #[v3] t3)) (k4:W.heap[b+4]?=yA (.cells #[v4] t4)) (x y z:uB) :
  (((W.setCell ⟨b+2,0,none⟩ x).setCell ⟨b+3,0,none⟩ y).setCell ⟨b+4,0,none⟩ z).heap[b+2]?=yA (.cells #[x] t2)/\(((W.setCell ⟨b+2,0,none⟩ x).setCell ⟨b+3,0,none⟩ y).setCell ⟨b+4,0,none⟩ z).heap[b+3]?=yA (.cells #[y] t3)/\(((W.setCell ⟨b+2,0,none⟩ x).setCell ⟨b+3,0,none⟩ y).setCell ⟨b+4,0,none⟩ z).heap[b+4]?=yA (.cells #[z] t4) /\
  (∀ B,B<=b+2 -> Below B W (((W.setCell ⟨b+2,0,none⟩ x).setCell ⟨b+3,0,none⟩ y).setCell ⟨b+4,0,none⟩ z))/\∀ (D:Nat) (o:Obj),W.heap[D]?=yA o -> b+4<D -> (((W.setCell ⟨b+2,0,none⟩ x).setCell ⟨b+3,0,none⟩ y).setCell ⟨b+4,0,none⟩ z).heap[D]?=yA o:=by
 have a2:(W.setCell ⟨b+2,0,none⟩ x).heap[b+2]?=yA (.cells #[x] t2):=by simpa using zD (i:=0) k2 x
 have a3:((W.setCell ⟨b+2,0,none⟩ x).setCell ⟨b+3,0,none⟩ y).heap[b+3]?=yA (.cells #[y] t3):=by simpa using zD (i:=0) (pC k3 (show b+3≠b+2 by omega) (i:=0) x) y
 have a4:(((W.setCell ⟨b+2,0,none⟩ x).setCell ⟨b+3,0,none⟩ y).setCell ⟨b+4,0,none⟩ z).heap[b+4]?=yA (.cells #[z] t4):=by simpa using zD (i:=0) (pC (pC k4 (show b+4≠b+2 by omega) (i:=0) x) (show b+4≠b+3 by omega) (i:=0) y) z
 refine ⟨pC (pC a2 (by omega) y) (by omega) z,pC a3 (by omega) z,a4,fun B hB=>(((cC _ _).setCell (p:=⟨b+2,0,none⟩) hB x).setCell (p:=⟨b+3,0,none⟩) (show B<=b+3 by omega) y).setCell (p:=⟨b+4,0,none⟩) (show B<=b+4 by omega) z,fun D o h hD=>pC (pC (pC h (by omega) x) (by omega) y) (by omega) z⟩
theorem zFl (R:Nat -> Prop) (s:Nat) (L:SL) (v:Sv) (t:Int) (w:uA) (h:qS R w s L v) (ho:bH v) (ht:(cE .i64 t).wf=true):Calls prog 31 #[(s,0),t] w (RetRd (v.read t) w):=by
 refine (lE (n:=5)).1 ?_
 have HHD:=fA (fun W=>(lE (n:=5 - 1)).2 (zFk s W))
 have HCLN:=fA (fun (A:Option Addr) (c:Nat) (bs:List UInt8) (V:uA) (h:bJ V A bs) (hz:A=none -> bs.length=0) (hl:bs.length<=1000000)=>tV A c bs V h hz hl)
 have HF64:=fA ho.f
 refine iP func31 rfl trivial ?_ rfl
 simp only [ntmps31,qJ,qD,sH,iJ,oN,nI,mI,xK,pJ,wE,zL]
 have hfn:∀ k,Fence.wide.fn k:=fun _=>trivial
 have hdp:Fence.wide.depth=none:=rfl
 have HH:=fA h
 have HO:=fA ho
 have hsl:=eB h.blk
 clear h ho
 gi_wp2_with fail
 obtain ⟨W6,hW6,hal,hs6,g4,g5,g7,g8,g10⟩:=zIa w (.cells #[.pointer (yA ⟨s,0,none⟩)] 71) (.cells #[t] 3) (.cells #[.slice none 0 0] 33) (.cells #[.int .i64 0] 3) (.cells #[.int .i64 0] 27)
 simp only [wB,Nat.add_assoc,iJ]
 rw [<- hW6]
 clear hW6
 have HX:jC (∀ w1,Below W6.heap.size W6 w1 -> w1.heap[w.heap.size]?=yA (.cells #[.pointer (yA ⟨s,0,none⟩)] 71)/\w1.heap[w.heap.size+1]?=yA (.cells #[t] 3)/\w1.heap[w.heap.size+2]?=yA (.cells #[.slice none 0 0] 33)/\w1.heap[w.heap.size+3]?=yA (.cells #[.int .i64 0] 3)/\w1.heap[w.heap.size+4]?=yA (.cells #[.int .i64 0] 27)):=fA fun w1 hb=>⟨kA hb g4,kA hb g5,kA hb g7,kA hb g8,kA hb g10⟩
 have c4:=jA g4 0
 gi_wp2_with (gi_at_call 75;refine (HHD.out _).mono ?_;rintro e w3 ⟨rfl,hw3⟩;have hb3:Below W6.heap.size W6 w3:=(by rw [hw3];exact wA _ _);have hs3:w3.heap.size=w.heap.size+6:=(by rw [hw3,wB,hs6]);have gS:w3.heap[W6.heap.size]?=yA (.cells #[.pointer (yA ⟨s,0,none⟩)] 71):=(by rw [hw3];exact rB _ _);rw [hs6] at gS;clear hw3)
 have hw03:=hal.trans (hb3.mono hal.size)
 have HH3:=fA (HH.out.below hw03)
 refine jQ rfl (by omega) (gf:=147) (lb:=#[.pointer (yA ⟨w.heap.size+5,0,none⟩)]) rfl trivial (enters_of func147 (by kernel_rfl) rfl)
  (zEG (5 - 1) (w.heap.size+5) s (fun k=>k<w3.heap.size) R L v w3 (by omega) (by omega) (jA gS 0) (fun x hx=>HH3.out.own_lt hx) HH3.out HO.out) (fun h k=>eV h k) (zLn (fun k hk=>hk)) (cC _ _) (fun _=>rfl)
  (fun pre W=>Below w3.heap.size w3 W/\NoId t pre)
  (RdIx v t w)
  ?own ?ownx ⟨cC _ _,fun _ h=>by cases h⟩
  (fun x a' W=>∃ X,w3.heap.size<=X/\W.heap[X]?=yA (zPS x.1.1 x.1.2.1 x.1.2.2.1 x.1.2.2.2.1 x.1.2.2.2.2)/\a'={ tmps:=#[.pointer (yA ⟨s,0,none⟩),.int .i64 t,.pointer (yA ⟨w.heap.size,0,none⟩),.pointer (yA ⟨w.heap.size+1,0,none⟩),.pointer (yA ⟨w.heap.size+2,0,none⟩),.pointer (yA ⟨w.heap.size+3,0,none⟩),.pointer (yA ⟨w.heap.size+4,0,none⟩),.pointer (yA ⟨X,0,none⟩),.bool x.2,.pointer (yA ⟨s,0,none⟩),.func (.func 147) #[] #[.pointer (yA ⟨w.heap.size+5,0,none⟩)],.agg #[.int .i64 x.1.1,.int .i64 x.1.2.1,.int .u32 x.1.2.2.1,.bool x.1.2.2.2.1,.bool x.1.2.2.2.2],.bool x.2,vB,vB,vB,vB,vB,vB,vB,vB,vB,vB,vB,vB,vB,vB,vB,vB,vB],defers:=[] })
  ?ax ?assign ?body ?done ?stop
 case' body=>(have HS3:=fA hs3;clear hs3)
 case own=>exact zAN (kQ (w₀:=w3) (mA _) (mA _)) (fun _ _ _ _ hs _ _=>hs)
 case ownx =>
  rintro cd pre W W' row ⟨h1,ini,x,A,c,h2,h3,h4,h5,h6,h7,h8,h9⟩ hg hr
  have kp:∀ {Z:Nat} {cs:Array uB} {t:tC},W.heap[Z]?=yA (.cells cs t) -> W'.heap[Z]?=yA (.cells cs t):=fun {Z cs t} hz=>(hg.block Z (eB hz) (fun e=>by
   obtain ⟨_,o,ho,hc⟩:=hr Z e.symm
   rw [hz] at ho;cases ho;cases hc)).trans hz
  have hs03:w.heap.size<=w3.heap.size:=by omega
  exact ⟨h1,ini,x,A,c,h2,h3,h4,kp h5,kp h6,kp h7,zMB h8 hg (fun r e=>(hr r e).2),kQ (β:=Unit) (w₀:=w) (mA _) hs03 () _ _ _ h9 hg hr⟩
 case ax =>
  rintro x a' _ W W' row ⟨X,h1,h3,h5⟩ hg hr
  have kp:∀ {Z:Nat} {cs:Array uB} {t:tC},W.heap[Z]?=yA (.cells cs t) -> W'.heap[Z]?=yA (.cells cs t):=fun {Z cs t} hz=>(hg.block Z (eB hz) (fun e=>by
   obtain ⟨_,o,ho,hc⟩:=hr Z e.symm
   rw [hz] at ho;cases ho;cases hc)).trans hz
  exact ⟨X,h1,kp h3,h5⟩
 case assign =>
  rintro l pre ⟨⟨x1,x2,x3,x4,x5⟩,sp⟩ W K hi hK
  have hsW:=hi.1.size
  gi_wp2
  have hal2:=wA W (zPS x1 x2 x3 x4 x5)
  exact hK _ _ ((kO _ _).from _) (oM hal2) ⟨hi.1.trans (hal2.mono hsW),hi.2⟩ ⟨W.heap.size,hsW,rB W _,rfl⟩
 case done =>
  rintro D ys W hD rfl ⟨hB,hno⟩ hK
  obtain ⟨_,_,k2,k3,k4⟩:=HX.out _ (hb3.trans (hB.mono hb3.size))
  have f2:=qB k2 0
  have f3:=qB k3 0
  have f4:=qB k4 0
  have r2:=jA k2 0
  have r3:=jA k3 0
  have r4:=jA k4 0
  gi_wp2
  have hm:v.read t=([],0,5):=by
   unfold Sv.read
   rw [zCm.2 (fun p hp=>by simpa using hno p hp)]
   rfl
  obtain ⟨q2,q3,q4,hb',hk'⟩:=zPs W k2 k3 k4 (.slice none 0 0) (.int .i64 0) (.int .i64 5)
  have hKD:=hk' D _ hK (by omega)
  have hput:∀ {Z:Nat} {o:Obj},((((W.setCell ⟨w.heap.size+2,0,none⟩ (.slice none 0 0)).setCell ⟨w.heap.size+3,0,none⟩ (.int .i64 0)).setCell ⟨w.heap.size+4,0,none⟩ (.int .i64 5)).heap[Z]?=yA o) -> Z≠D -> ((((W.setCell ⟨w.heap.size+2,0,none⟩ (.slice none 0 0)).setCell ⟨w.heap.size+3,0,none⟩ (.int .i64 0)).setCell ⟨w.heap.size+4,0,none⟩ (.int .i64 5)).putObj D (.deferred none)).heap[Z]?=yA o:=fun hz hne=>(eF hne).trans hz
  refine ⟨by simp,.inl ⟨_,_,rfl,bP hKD,_,res3 rfl rfl rfl rfl (hput q2 (by omega)) (hput q3 (by omega)) (hput q4 (by omega)),none,0,by rw [hm];rfl,by rw [hm];exact nB _ _ _ _,?_⟩⟩
  exact (hw03.trans (hB.mono hw03.size)).trans ((hb' w.heap.size (by omega)).trans (belowK_b (w:=w) (by omega) _ D _ _ (by omega) hKD rfl rfl))
 case stop =>
  rintro D cd pre W hD hp ⟨rfl,ini,x,A,c,h2,h3,h4,k2,k3,k4,h8,h9⟩ hK
  gi_wp2
  have hm:v.read t=v.readOf x:=by
   obtain ⟨tl,ht'⟩:=hp
   unfold Sv.read
   rw [<- ht',h2,List.append_assoc,List.find?_append,zCm.2 (fun p hp=>by simpa using h3 p hp),List.singleton_append,List.find?_cons]
   simp [h4]
  have hput:∀ {Z:Nat} {o:Obj},W.heap[Z]?=yA o -> Z≠D -> (W.putObj D (.deferred none)).heap[Z]?=yA o:=fun hz hne=>(eF hne).trans hz
  refine ⟨by simp,.inl ⟨_,_,rfl,bP hK,_,res3 rfl rfl rfl rfl (hput k2 (by omega)) (hput k3 (by omega)) (hput k4 (by omega)),A,c,by rw [hm],by rw [hm];exact ownsRow_putObj h8 _ hK rfl,?_⟩⟩
  exact h9.trans (belowK_b (w:=w) (by omega) _ D _ _ (by omega) hK rfl rfl)
 case body =>
  rintro l pre ⟨⟨x1,x2,x3,x4,x5⟩,sp⟩ a' W hl ⟨r,hr⟩ ⟨hB,hno⟩ ⟨X,hX,gX,rfl⟩ hlt
  obtain ⟨k0,k1,k2,k3,k4⟩:=HX.out _ (hb3.trans (hB.mono hb3.size))
  have e0:=jA gX 0
  have e1:=jA gX 1
  have d1:=jA k1 0
  have d0:=jA k0 0
  have f2:=qB k2 0
  have f3:=qB k3 0
  have f4:=qB k4 0
  have r2:=jA k2 0
  have r3:=jA k3 0
  have r4:=jA k4 0
  by_cases hx:x1=t
  ·subst hx
   cases sp
   ·have hb0W:=hw03.trans (hB.mono hw03.size)
    have HWS:=HH.out.below hb0W
    have hrow:bJ W (L.g x1 false).1 (v.f x1 false):=dC.of_own (HWS.rows x1 false)
    have hzz:=zOX (HWS.rows x1 false)
    have hmp:=HWS.mp
    have hblk:=HWS.blk
    have hlen:=HF64.out x1 false
    have hMlt:=HH.out.mp.lt
    have hXW:w.heap.size+6<=X:=by have:=HS3.out;omega
    have HLK:=fA (fun (w4:uA) (hc:fD [w.heap.size+2] W w4)=>(hmp.chg hc (by simp;omega)).look ht false)
    have hRD:v.readOf ((x1,x2,x3,x4,x5),false)=(v.f x1 false,x2,0):=rfl
    have HRD:=fA hRD
    clear hRD
    generalize L.g x1 false=g at *
    obtain ⟨ga,gc⟩:=g
    generalize v.f x1 false=bs at *
    have HCL:=fA (HCLN.out ga gc bs W.drew hrow.drew hzz (by omega))
    have HS4:jC (∀ w4,fD [w.heap.size+2] W.drew w4 -> (fun V:uA=>V.cell? ⟨w.heap.size,0,none⟩=yA (.pointer (yA ⟨s,0,none⟩))/\V.cell? ⟨s,2,none⟩=yA (.map (yA L.M))/\V.cell? ⟨w.heap.size+1,0,none⟩=yA (.int .i64 x1)/\V.cell? ⟨X,1,none⟩=yA (.int .i64 x2)/\(eE 135 (.map (yA L.M)) (.agg #[x1,.bool false]) false).run prog V=.ok (.slice ga bs.length gc) V) w4):=fA fun w4 hc'=>by
     have hc:fD [w.heap.size+2] W w4:=⟨hc'.os,hc'.tape,hc'.output,hc'.size,hc'.block⟩
     exact ⟨jA (hc.keep k0 (by simp)) 0,jA (hc.keep hblk (by simp;omega)) 2,jA (hc.keep k1 (by simp)) 0,jA (hc.keep gX (by simp;omega)) 1,HLK.out w4 hc⟩
    have HZ4:jC (∀ w4,Below W.drew.heap.size W.drew w4 -> w4.heap[w.heap.size+2]?=yA (.cells #[.slice none 0 0] 33)/\w4.heap[w.heap.size+3]?=yA (.cells #[.int .i64 0] 3)/\w4.heap[w.heap.size+4]?=yA (.cells #[.int .i64 0] 27)/\Below W.heap.size W w4):=fA fun w4 hb4'=>by
     have hb4:Below W.heap.size W w4:=⟨hb4'.os,hb4'.tape,hb4'.output,hb4'.size,hb4'.block⟩
     exact ⟨kA hb4 k2,kA hb4 k3,kA hb4 k4,hb4⟩
    have hS2:(fun V:uA=>V.cell? ⟨w.heap.size,0,none⟩=yA (.pointer (yA ⟨s,0,none⟩))/\V.cell? ⟨s,2,none⟩=yA (.map (yA L.M))/\V.cell? ⟨w.heap.size+1,0,none⟩=yA (.int .i64 x1)/\V.cell? ⟨X,1,none⟩=yA (.int .i64 x2)/\(eE 135 (.map (yA L.M)) (.agg #[x1,.bool false]) false).run prog V=.ok (.slice ga bs.length gc) V) W.drew:=HS4.out W.drew (fD.refl _ _)
    clear hmp hblk hrow f2 f3 f4 r2 r3 r4
    gi_upto_region 4 with fail
    refine jW (S:=fun V:uA=>V.cell? ⟨w.heap.size,0,none⟩=yA (.pointer (yA ⟨s,0,none⟩))/\V.cell? ⟨s,2,none⟩=yA (.map (yA L.M))/\V.cell? ⟨w.heap.size+1,0,none⟩=yA (.int .i64 x1)/\V.cell? ⟨X,1,none⟩=yA (.int .i64 x2)/\(eE 135 (.map (yA L.M)) (.agg #[x1,.bool false]) false).run prog V=.ok (.slice ga bs.length gc) V) 11 hS2 fun hH => ?_
    refine gW [100,101,102,103,104,105,106,108,109] ?_
    refine oW 7 fun K hK => ?_
    go_simp
    gi_wp2_with (gi_at_call 76;refine ((lE.2 HCL.out).inRound l).mono ?_;rintro e w4 ⟨A4,c4,rfl,own4,hb4d⟩;have hS4:=HS4.out w4 (fD.of_below hb4d);have hS5:=HS4.out _ ((fD.of_below (S:=[w.heap.size+2]) hb4d).setCell (b:=w.heap.size+2) (.inl (by simp)) 0 (.slice A4 bs.length c4));obtain ⟨K2,K3,K4,hb4⟩:=HZ4.out w4 hb4d;have k2:=jA K2 0;have k3:=jA K3 0;have k4:=jA K4 0;have f2:=qB K2 0;have f3:=qB K3 0;have f4:=qB K4 0)
    refine hK _ _ hS4 fun hH => ?_
    clear hK K
    try simp only [nP]
    refine oW 10 fun K hK => ?_
    go_simp
    refine hK _ _ hS5 fun hH => ?_
    clear hK K
    try simp only [nP]
    refine xW ?_
    refine tR 11 fun K hK => ?_
    go_simp
    refine hK _ _ ?_
    clear hK K
    try simp only [nP]
    refine tR 12 fun K hK => ?_
    go_simp
    refine hK _ _ ?_
    clear hK K
    try simp only [nP]
    refine dR ?_
    gi_wp2
    obtain ⟨q2,q3,q4,hb',hk'⟩:=zPs w4 K2 K3 K4 (.slice A4 bs.length c4) (.int .i64 x2) (.int .i64 0)
    have hlo:=hw03.size
    have hWs:=hB.size
    have hA4:∀ x ∈ zB A4,w.heap.size+5<=x:=fun x hx=>by
     have h1:=(qC own4 x hx).1
     have h2:W.heap.size<=x:=h1
     have:=HS3.out
     omega
    have hR4:=HRD.out
    exact ⟨((((mK (nG hb4) (fun j o e=>by cases e)).trans (sE _ _ _)).trans (sE _ _ _)).trans (sE _ _ _)).from _,rfl,pre,_,A4,c4,rfl,hno,rfl,by rw [hR4];exact q2,by rw [hR4];exact q3,by rw [hR4];exact q4,by
     rw [hR4]
     exact mQ (rE (rE (rE own4 (fun x hx=>by have:=hA4 x hx;omega) 0 _) (fun x hx=>by have:=hA4 x hx;omega) 0 _) (fun x hx=>by have:=hA4 x hx;omega) 0 _) (fun x hx=>by have:=hA4 x hx;omega),
     (hw03.trans (hB.mono hw03.size)).trans ((hb4.mono (by omega)).trans (hb' _ (by omega)))⟩
   ·gi_wp2
    obtain ⟨q2,q3,q4,hb',hk'⟩:=zPs W k2 k3 k4 (.slice none 0 0) (.int .i64 0) (.int .i64 4)
    exact ⟨(((sE _ _ _).trans (sE _ _ _)).trans (sE _ _ _)).from _,rfl,pre,_,none,0,rfl,hno,rfl,q2,q3,q4,nB _ _ _ _,(hw03.trans (hB.mono hw03.size)).trans (hb' _ (by omega))⟩
  ·gi_wp2
   exact ⟨KeepsFrom.refl _ _,oM (xC _),hB,fun p hp=>(List.mem_append.1 hp).elim (fun q=>hno p q) (fun q=>by rw [List.mem_singleton.1 q];exact hx)⟩
end
section
open Go.Shelf
attribute [local go_sem] dL
def xL (pre:List (Rp × Bool)):List Int:=(pre.filter (fun x=>x.2)).map (fun x=>x.1.1)
theorem zJX (pre:List (Rp × Bool)) (x:Rp):xL (pre ++ [(x,true)])=xL pre ++ [x.1]:=by simp [xL]
theorem zLU (pre:List (Rp × Bool)) (x:Rp):xL (pre ++ [(x,false)])=xL pre:=by simp [xL]
theorem zEC (pre:List (Rp × Bool)):(xL pre).length<=pre.length:=by unfold xL;rw [mC];exact eC _ _
def rem1 (v:Sv) (t:Int):Sv:=(v.remove t).1
def Sv.scrub (v:Sv):Sv:=(xL v.heldL).foldl rem1 v
theorem zQv {v:Sv} (ho:bH v):∀ t ∈ xL v.heldL,(cE .i64 t).wf=true:=fun t ht=>by
 unfold xL Sv.heldL at ht
 rw [jJ] at ht
 obtain ⟨x,hx,rfl⟩:=ht
 have:=(vI.1 hx).1
 rw [jJ] at this
 obtain ⟨y,hy,rfl⟩:=this
 exact ho.ids _ (zFb v y hy)
theorem zOh {v:Sv} (ho:bH v):(xL v.heldL).length<=16:=by
 have h1:=zEC v.heldL
 have h2:v.heldL.length=v.report.length:=by unfold Sv.heldL;rw [mC]
 have h3:=zAj v
 have h4:=ho.l
 omega
theorem zIL (xs:List Rp) (t:Int):∀ x ∈ (nN xs t).1,x ∈ xs:=fun x hx=>by
 unfold nN nE at hx
 split at hx
 ·have h1:=(vI.1 hx).1
  unfold rD at h1
  split at h1
  ·exact h1
  ·cases h1
 ·cases hx
theorem bH.rem1 {v:Sv} (h:bH v) (t:Int):bH (Go.Proofs.YtogbpifcmhafkaaGreat.rem1 v t):=by
 unfold Go.Proofs.YtogbpifcmhafkaaGreat.rem1 Sv.remove
 split
 ·exact ⟨h.room,pA (zDS v.l t) h.l,fun x hx=>h.ids x (zIL v.l t x hx),mZ (P:=fun d:List UInt8=>d.length<=64) h.f (by decide)⟩
 ·exact h
theorem bH.rems {v:Sv} (h:bH v) (l:List Int):bH (l.foldl Go.Proofs.YtogbpifcmhafkaaGreat.rem1 v):=by
 induction l generalizing v with
 | nil=>exact h
 | cons x l ih=>exact ih (h.rem1 x)
theorem qS.putD {R : Nat -> Prop} {w : uA} {s : Nat} {L : SL} {v : Sv} (h : qS R w s L v) {D : Nat} {q : Option (List Deferred)} (hD : w.heap[D]? = yA (.deferred q)) (o' : Obj) : qS R (w.putObj D o') s L v := by
 have hsz:w.heap.size<=(w.putObj D o').heap.size:=(grownBy_putObj' w D o').size
 refine ⟨(eF (fun e => ?_)).trans h.blk,⟨⟨?_,h.rl.1.cap,h.rl.1.none_,h.rl.1.max⟩,h.rl.2⟩,?_,fun k b=>ownsRow_putObj (h.rows k b) _ hD rfl,h.dis,h.sm,h.sr,fun x hx=>tA (h.lt x hx) hsz⟩
 ·subst e
  rw [h.blk] at hD
  cases hD
 ·rcases h.rl.1.row with q | ⟨b,off,hA,hlt,hx⟩
  ·exact .inl q
  ·refine .inr ⟨b,off,hA,tA hlt hsz,fun i u hi => ?_⟩
   have hc:=hx i u hi
   by_cases e:b=D
   ·subst e
    simp [World.cell?,hD] at hc
   ·rw [World.cell?_of_block (eF e)]
    exact hc
 ·obtain ⟨D',⟨es,clock,hb,r⟩,h2⟩:=h.mp
  refine ⟨D',⟨es,clock,(eF (fun e => ?_)).trans hb,r⟩,h2⟩
  subst e
  rw [hb] at hD
  cases hD
theorem qI.putD {R:Nat -> Prop} {w w':uA} {s:Nat} {L L':SL} {v:Sv} (h:qI R s L L' v w w') {D:Nat} {q:Option (List Deferred)} (hD:w'.heap[D]?=yA (.deferred q)) {o':Obj} (hw:w.heap.size<=D):qI R s L L' v w (w'.putObj D o'):=by
 have hg:=grownBy_putObj' w' D o'
 refine ⟨h.at_.putD hD o',⟨hg.os.trans h.chg.os,hg.tape.trans h.chg.tape,hg.output.trans h.chg.output,pA h.chg.size hg.size,fun k hk hn=>(eF (by omega)).trans (h.chg.block k hk hn)⟩,h.fr⟩
theorem zJa (R:Nat -> Prop) (s:Nat) (L:SL) (v:Sv) (w:uA) (h:qS R w s L v) (ho:bH v) (hR:∀ x,w.heap.size<=x -> R x):Calls prog 70 #[(s,0)] w fun e w'=>∃ r,zDF R s L 0 w r v.scrub e w':=by
 refine (lE (n:=5)).1 ?_
 have HHD:=fA (fun W=>(lE (n:=5 - 1)).2 (zFk s W))
 have HRM:=fA (fun (L':SL) (v':Sv) (t:Int) (W:uA) (h':qS R W s L' v') (ho':bH v') (hs:w.heap.size<=W.heap.size) (ht:(cE .i64 t).wf=true)=>(lE (n:=5 - 1)).2 (zDi R s L' v' t W h' ho' (fun x hx=>hR x (pA hs hx)) ht))
 refine iP func70 rfl trivial ?_ rfl
 simp only [ntmps70,qJ,qD,sH,iJ,oN,nI,mI,xK,pJ,wE,zL]
 have hfn:∀ k,Fence.wide.fn k:=fun _=>trivial
 have hdp:Fence.wide.depth=none:=rfl
 have HH:=fA h
 have HO:=fA ho
 have hsl:=eB h.blk
 have HWF:=fA (zQv ho)
 have HGL:=fA (zOh ho)
 have hvl:=ho.l
 clear h ho
 gi_wp2_with (gi_at_call 75;refine (HHD.out _).mono ?_;rintro e w1 ⟨rfl,hw1⟩;have hs1:w1.heap.size=w.heap.size+2:=(by rw [hw1];simp);have HB0:Below w.heap.size w w1:=(by rw [hw1];exact yI w _ _);have bO:Boxed w1 w.heap.size 63 (.slice none 0 0):=(by rw [hw1];exact (Boxed.new w 63 (.slice none 0 0)).alloc _);have gS:w1.heap[w.heap.size+1]?=yA (.cells #[.pointer (yA ⟨s,0,none⟩)] 71):=(by rw [hw1];exact sF w _ _);clear hw1)
 obtain ⟨i0,hi0,hz0,hz1,hz2⟩:=info_parts tN.info
 have HS1:=fA hs1
 have HH1:=fA (HH.out.below HB0)
 have hEI:=fA (zAN (Own.from (holdsRow_own (β:=List (Rp × Bool)) w1.heap.size w.heap.size 63 3 1 (fun pre=>(xL pre).length) (fun pre=>flat kG (xL pre)) (fun pre v=>∃ g c,v=.slice g (xL pre).length c)) w1.heap.size) (kQ (w₀:=w1) HB0.size HB0.size))
 refine jQ rfl (by omega) (gf:=147) (lb:=#[.pointer (yA ⟨w.heap.size+1,0,none⟩)]) rfl trivial (enters_of func147 (by kernel_rfl) rfl)
  (zEG (5 - 1) (w.heap.size+1) s (fun k=>k<w1.heap.size/\k≠w.heap.size) R L v w1 (by omega) ⟨by omega,by omega⟩ (jA gS 0) (fun x hx=>⟨HH1.out.own_lt hx,by have:=HH.out.own_lt hx;omega⟩) HH1.out HO.out) (fun h k=>eV h k) (zLn (fun k hk=>hk.1)) (cC _ _) (fun _=>rfl)
  (fun pre W=>(∃ v,Boxed W w.heap.size 63 v/\W.ownsRow w1.heap.size 3 1 v (xL pre).length (flat kG (xL pre))/\∃ g c,v=.slice g (xL pre).length c)/\Below w.heap.size w1 W)
  (fun _ _ _=>False) hEI.out (fun _ _ _ _ _ hs _ _=>hs) ⟨⟨_,bO,nB _ _ _ _,none,0,rfl⟩,cC _ _⟩
  (fun x a' W=>∃ X,w1.heap.size<=X/\W.heap[X]?=yA (zPS x.1.1 x.1.2.1 x.1.2.2.1 x.1.2.2.2.1 x.1.2.2.2.2)/\a'={ tmps:=#[.pointer (yA ⟨s,0,none⟩),vB,.slice none 0 0,.pointer (yA ⟨w.heap.size,0,none⟩),.pointer (yA ⟨X,0,none⟩),.bool x.2,vB,vB,.pointer (yA ⟨s,0,none⟩),.func (.func 147) #[] #[.pointer (yA ⟨w.heap.size+1,0,none⟩)],.agg #[.int .i64 x.1.1,.int .i64 x.1.2.1,.int .u32 x.1.2.2.1,.bool x.1.2.2.2.1,.bool x.1.2.2.2.2],.bool x.2,vB,vB,vB,vB,vB,vB,vB,vB,vB,vB,vB,vB,vB,vB,vB,vB,vB],defers:=[] })
  (by
   rintro x a' _ W W' row ⟨X,h1,h2,h3⟩ hg hr
   refine ⟨X,h1,(hg.block X (eB h2) (fun e => ?_)).trans h2,h3⟩
   obtain ⟨_,o,ho,hc⟩:=hr X e.symm
   rw [h2] at ho;cases ho;cases hc) ?assign ?body ?done ?stop
 case assign =>
  rintro l pre ⟨⟨x1,x2,x3,x4,x5⟩,sp⟩ W K hi hK
  have hsW:=hi.2.size
  clear hs1
  gi_wp2
  exact hK _ _ ((kO _ _).from _) (oM (wA W _)) (hEI.out.alloc _ hi) ⟨W.heap.size,hsW,rB W _,rfl⟩
 case body =>
  rintro l pre ⟨⟨x1,x2,x3,x4,x5⟩,sp⟩ a' W hl ⟨r,hr⟩ ⟨⟨v',hv,hrow,g,cc,rfl⟩,hB⟩ ⟨X,hX,gX,rfl⟩ hlt
  have hc:=hv.cell
  have hX0:=jA gX 0
  have hsW:=hB.size
  have hlx:(xL pre).length<=100:=by have:=zEC pre;omega
  clear hs1
  cases sp
  ·have HGN:=fA (zLU pre (x1,x2,x3,x4,x5))
   gi_wp2
   exact ⟨KeepsFrom.refl _ _,oM (xC _),by rw [HGN.out];exact ⟨_,hv,hrow,g,cc,rfl⟩,hB⟩
  ·have HGY:=fA (zJX pre (x1,x2,x3,x4,x5))
   gi_wp2_with (gi_at_builtin;refine wpListIn_append_own _ rfl _ _ 63 rfl w1.heap.size 3 i0 (.int .i64 0) 1 8 underlying63 hi0 hz0 hz1 hz2 rfl (by decide) _ _ _ rfl (hrow.alloc _) ⟨W.heap.size,0,none⟩ 1 1 [.int .i64 x1] rfl rfl (cell_one_new _ _ _) (by simp [Value.oneCell']) (by unfold maxLen;omega) (by omega) (by simp;omega) ?_;intro v' w2 hown' hgrow _;obtain ⟨g',cap',rfl⟩:=ownsRow_succ hown';obtain ⟨hv1,hv2,hr2,hk2,hb2⟩:=hv.appended (by decide) (oC hrow HB0.size) (pA HB0.size hsW) (mA _) (oC hown' HB0.size) hgrow;have hc1:=hv1.cell;have hf1:=hv1.frozen)
   refine ⟨hk2.from _,zLm hv (by decide) (by decide) hrow (fun k hk=>⟨hk.1,hk.2⟩) hgrow,⟨_,hv2,?_,yA ⟨g',0,none⟩,cap',by rw [HGY.out,kB];rfl⟩,hB.trans hb2⟩
   have:=hown'.kept (grownBy_setCell' w2 w.heap.size (.slice (yA ⟨g',0,none⟩) ((xL pre).length+1) cap')) (.inr (hv1.not_row (by decide) hown').symm)
   rw [HGY.out,uD,kB]
   exact this
 case done =>
  rintro D ys W hD rfl ⟨⟨v',hv,hrow,g,cc,rfl⟩,hB⟩ hK
  have hc:=hv.cell
  have hgl:=HGL.out
  have HSC:jC (v.scrub=(xL v.heldL).foldl rem1 v):=fA rfl
  have HRK:=fA (fun k=>HO.out.rems ((xL v.heldL).take k))
  generalize xL v.heldL=gs at *
  have hb0W:=HB0.trans hB
  have HW:=fA (HH.out.below hb0W)
  have hD0:w.heap.size<=D:=by have:=HS1.out;omega
  have hrl:∀ x ∈ zB g,¬ L.own s x:=fun x hx q=>by
   have h1:=(qC hrow x hx).1
   have h2:=HH.out.own_lt q
   have:=HS1.out
   omega
  have HRW:jC (∀ (L':SL) (v':Sv) (wr:uA),qI R s L L' v' W wr -> yB kG wr g cc gs):=fA fun L' v' wr st=>st.row (v:=v) (yB.of_own hrow (by omega)) hrl
  have hWs:=hb0W.size
  have HB0W:=fA hb0W
  have HDK:=fA (show ∀ (L':SL) (v':Sv) (wr:uA),qI R s L L' v' W wr -> wr.heap[D]?=yA (.deferred (yA [])) from fun L' v' wr st=>st.chg.keep hK (fun q=>by have:=HH.out.own_lt q;omega))
  have HGB:=fA (show ∀ (L':SL) (v':Sv) (wr:uA),qI R s L L' v' W wr -> wr.cell? ⟨w.heap.size,0,none⟩=yA (.slice g gs.length cc) from fun L' v' wr st=>jA (st.chg.keep hv (fun q=>by have:=HH.out.own_lt q;omega)) 0)
  clear hb0W hrow hrl hv hK
  gi_wp2
  gi_loopw [7,20] (fun v7 i wr=>∃ (k:Nat) (L':SL),k<=gs.length/\i=.int .i64 (k:Int)/\jC (qI R s L L' ((gs.take k).foldl rem1 v) W wr/\L'.n<=L.n)) (fun _ i _=>gs.length - (intOf i).toNat)
  case atStart=>exact ⟨0,L,by omega,rfl,fA ⟨qI.refl HW.out (xC _),mA _⟩⟩
  case round =>
   obtain ⟨k,L',hk,rfl,HS⟩:=hrel
   have hk0:(0:Int)<=(k:Int):=by omega
   by_cases hlt:k<gs.length
   ·have hk1:(k:Int)<(gs.length:Int):=by omega
    have hwf:=fA (HWF.out _ (wC hlt))
    have hst:jC ((gs.take (k+1)).foldl rem1 v=rem1 ((gs.take k).foldl rem1 v) (gs[k]'hlt)):=fA (by rw [tB hlt,List.foldl_append];rfl)
    obtain ⟨b,off,rfl,blt,d0⟩:=uJ (HRW.out _ _ _ HS.out.1) hlt
    generalize (gs[k]'hlt)=x at *
    have HC:=fA (HRM.out L' _ x _ HS.out.1.at_ (HRK.out k) (pA hWs HS.out.1.chg.size) hwf.out)
    gi_wp2_with (gi_at_call 113;refine HC.out.mono ?_;rintro e w3 ⟨rfl,L3,hst3,hn3⟩)
    go_roundw
    case rel=>exact ⟨k+1,L3,by omega,by go_num,fA (by rw [hst.out];exact ⟨HS.out.1.trans hst3,by have:=HS.out.2;omega⟩)⟩
    case measure=>simp [intOf];omega
   ·have hk1:¬ (k:Int)<(gs.length:Int):=by omega
    have hke:k=gs.length:=by omega
    have hs2:jC ((gs.take k).foldl rem1 v=v.scrub):=fA (by rw [HSC.out,hke,List.take_length])
    rw [hs2.out] at HS
    have hgb:=HGB.out _ _ _ HS.out.1
    have hKD:=HDK.out _ _ _ HS.out.1
    have HKD:=fA hKD
    clear hKD
    gi_wp2
    refine ⟨by simp,.inl ⟨_,_,rfl,bP HKD.out,?_⟩⟩
    refine ⟨_,results_tmp rfl _ _ _,?_⟩
    exact ⟨_,rfl,L',((qI.refl HH.out HB0W.out).trans HS.out.1).putD HKD.out hD0,HS.out.2⟩
 case stop =>
  rintro D c pre W _ _ h _
  exact h.elim
end
end Go.Proofs.YtogbpifcmhafkaaGreat
