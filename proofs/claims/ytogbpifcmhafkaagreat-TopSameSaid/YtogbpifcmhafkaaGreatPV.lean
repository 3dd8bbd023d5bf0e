/-
 Part PV of the proof.
-/
import Derived.Test.YtogbpifcmhafkaaGreatPQ
import Derived.Test.YtogbpifcmhafkaaGreatPS
import Derived.RangeFuncNested
import Derived.RangeFuncBound
import Derived.RangeFuncCalls
import Derived.RangeFuncLeaves
import Derived.RangeFuncBox
import Derived.Shelf.Abstract
import Derived.Shelf.AbstractIn
import Derived.Shelf.RegionOpen
import Derived.OwnWalkIn
import Derived.TacticsInMore
import Derived.LoopNIn
import Derived.LoopIn
import Derived.Sort.CutIn
import Derived.Maps.OwnIn
open Array renaming replicate_succ->nI,replicate_zero->mI
open Go renaming TypeId->tC,Value->uB,World->uA,callsIn_wide->lE,grownBy_setCell'->jZ,undef->vB
open Go.Boxed renaming new->zBr
open Go.Fence renaming wide->uM
open Go.KeepsOthers renaming alloc->kO
open Go.Lib renaming hid->fA
open Go.Oper renaming semAt_some->dL
open Go.RowKit.Below renaming alloc->zAF,refl->cC
open Go.World renaming putObj_heap_other->eF,size_alloc->wB
open List renaming append_toArray->pJ,cons_append->zL,length_cons->qD,length_filter_le->eC,length_map->mC,length_nil->sH,nil_append->wE,push_toArray->xK,size_toArray->qJ
open Nat renaming le_refl->mA,le_trans->pA,lt_of_lt_of_le->tA,reduceAdd->iJ,reduceSub->oN
open Option renaming some->yA
namespace Go.Proofs.YtogbpifcmhafkaaGreat
open Go.RowKit Tryz
open Go.Lib(hid)
set_option linter.unusedVariables false
set_option linter.unusedSimpArgs false
set_option maxRecDepth 100000
set_option maxHeartbeats 16000000
section
open Go.Shelf
attribute [local go_sem] dL
def zDV (B:Nat -> Prop) (T:tC) (W W':uA):Prop:=W.heap.size<=W'.heap.size/\(∀ k,B k -> k<W.heap.size -> W'.heap[k]?=W.heap[k]?)/\∀ (k:Nat) (cs:Array uB) (fr:Nat × Nat),W.heap[k]?=yA (Obj.cells cs T fr) -> W'.heap[k]?=yA (Obj.cells cs T fr)
theorem eV {B:Nat -> Prop} {T:tC} {X Y Z:uA} (h:zDV B T X Y) (k:zDV B T Y Z):zDV B T X Z:=⟨pA h.1 k.1,fun i hi hl=>(k.2.1 i hi (tA hl h.1)).trans (h.2.1 i hi hl),fun i cs fr e=>k.2.2 i cs fr (h.2.2 i cs fr e)⟩
theorem zLn {B:Nat -> Prop} {T:tC} {w:uA} (hn:∀ k,B k -> k<w.heap.size) (W:uA) (l:Nat) (o o':Obj) (hl:w.heap.size<=l) (h:W.heap[l]?=yA o) (ho:o.isCells=false) (hw:o.isWalk=false):zDV B T W (W.putObj l o') :=
 ⟨(grownBy_putObj' W l o').size,fun k hk _=>eF (by have:=hn k hk;omega),fun k cs fr e=>by
  by_cases hk:k=l
  ·subst hk;rw [h] at e;injection e with e;subst e;cases ho
  ·rw [eF hk];exact e⟩
theorem oM {B:Nat -> Prop} {T:tC} {W W':uA} (h:Below W.heap.size W W'):zDV B T W W':=⟨h.size,fun k _ hl=>h.block k hl,fun k cs fr e=>kA h e⟩
theorem kZ {B:Nat -> Prop} {T:tC} {W W':uA} (h:zDV B T W W') {k o:Nat} (hk:B k) (hl:k<W.heap.size):W'.cell? ⟨k,o,none⟩=W.cell? ⟨k,o,none⟩:=World.cell?_of_block (h.2.1 k hk hl)
theorem zLq {B:Nat -> Prop} {T:tC} {w w':uA} {base size n:Nat} {v:uB} {xs:List uB} (h:w.ownsRow base T size v n xs) (hk:zDV B T w w'):w'.ownsRow base T size v n xs:=by
 refine ⟨h.1,h.2.imp id ?_⟩
 rintro ⟨g,c,cur,hv,hg,hh,r⟩
 exact ⟨g,c,cur,hv,hg,hk.2.2 _ _ _ hh,r⟩
theorem nG {W W':uA} (h:Below W.heap.size W W'):W.grownBy W' none:=⟨h.os,h.tape,h.output,h.size,fun k hk _=>h.block k hk⟩
def zBe (xs:List Bt) (now limit:Int):List Bt:=(vG xs).filter (fun x=>decide (now<=xY x limit))
theorem zKs (n l BL BN BM : Nat) (B : Nat -> Prop) (A : Option Addr) (c : Nat) (xs : List Bt) (now limit : Int) (J Jx : List Bt -> uA -> Prop) (W : uA)
  (hY:∀ pre x W1,J pre W1 -> pre.length<xs.length+1 -> YieldAt uM (n - 1) prog l #[.agg #[.int .i64 x.1,.int .i64 x.2]] W1 fun e W'=>(e=.returned (.bool true)/\J (pre ++ [x]) W'/\zDV B 173 W1 W')\/(e=.returned (.bool false)/\Jx (pre ++ [x]) W'))
  (hL:BL<W.heap.size) (cL:W.cell? ⟨BL,0,none⟩=yA (.slice A xs.length c)) (hN:BN<W.heap.size) (hNB:B BN) (cN:W.cell? ⟨BN,0,none⟩=yA (.int .i64 now)) (hM:BM<W.heap.size) (hMB:B BM) (cM:W.cell? ⟨BM,0,none⟩=yA (.int .i64 limit)) (h:yB zU W A c xs) (hJ:AbidesFrom W.heap.size J) (h0:J [] W) :
  CallsIn uM n prog 203 #[.func (.yield l) #[] #[],.pointer (yA ⟨BL,0,none⟩),.pointer (yA ⟨BN,0,none⟩),.pointer (yA ⟨BM,0,none⟩)] W fun e W'=>(∃ v,e=.returned v)/\((∃ ys,ys=zBe xs now limit/\J ys W')\/(∃ pre,pre <+: zBe xs now limit/\Jx pre W')):=by
 have hmx:=h.max
 have HF:=fA (zFR A c xs W h)
 have hfl:(vG xs).length<=xs.length:=by unfold vG;split <;> simp
 unfold zBe
 clear h
 generalize vG xs=ys at *
 refine callsIn_of_wp func203 rfl trivial ?_ rfl
 simp only [ntmps203,qJ,qD,sH,iJ,oN,nI,mI,xK,pJ,wE,zL]
 have hfn:∀ k,Fence.wide.fn k:=fun _=>trivial
 have hdp:Fence.wide.depth=none:=rfl
 gi_wp2_with (gi_at_call 130;refine (lE.2 HF.out).mono ?_;rintro e w1 ⟨A1,c1,rfl,own1,hb1⟩)
 have HT:Hid (∀ x1 x2 W,CallsIn uM (n - 1) prog 204 #[.agg #[.int .i64 x1,.int .i64 x2],.int .i64 limit] W fun e w'=>e=.returned (.int .i64 (xY (x1,x2) limit))/\Below W.heap.size W w'):=fA fun x1 x2 W=>lE.2 (zPJ x1 x2 limit W)
 have O1:=fA own1
 have K0:=fA (show zDV B 173 w1 w1 from oM (xC w1))
 have HY:=fA hY
 have HJ:=fA hJ
 have J1:=fA (hJ [] W w1 none h0 (nG hb1) (fun r e=>by cases e))
 have hs1:=hb1.size
 have eL:=fA (((bcell hb1).1 BL 0 hL).trans cL)
 have eN:=fA (((bcell hb1).1 BN 0 hN).trans cN)
 have eM:=fA (((bcell hb1).1 BM 0 hM).trans cM)
 clear own1 hY hJ h0 cL cN cM HF hb1
 have HS:=fA (fun k (hk:k<ys.length)=>wI (fun x:Bt=>decide (now<=xY x limit)) ys hk)
 gi_loopw [6,10] (fun v6 i wr=>∃ (k:Nat),k<=ys.length/\i=.int .i64 (k:Int)/\Hid (J ((ys.take k).filter (fun x=>decide (now<=xY x limit))) wr)/\Hid (zDV B 173 w1 wr)/\w1.heap.size<=wr.heap.size) (fun _ i _=>ys.length - (intOf i).toNat)
 case atStart=>exact ⟨0,by omega,rfl,J1,K0,mA _⟩
 case round =>
  clear J1 K0
  obtain ⟨k,hk,rfl,JK,KK,hsz⟩:=hrel
  have hk0:(0:Int)<=(k:Int):=by omega
  by_cases hlt:k<ys.length
  ·have hk1:(k:Int)<(ys.length:Int):=by omega
   have HSK:=fA (HS.out k hlt)
   obtain ⟨b,off,rfl,blt,d0,d1⟩:=zCU (yB.of_own (enc:=zU) (zLq O1.out KK.out) (by omega)) hlt
   have cN:=(kZ (o:=0) KK.out hNB (tA hN hs1)).trans eN.out
   have cM:=(kZ (o:=0) KK.out hMB (tA hM hs1)).trans eM.out
   generalize (ys[k]'hlt)=x at *
   obtain ⟨x1,x2⟩:=x
   simp only at d0 d1
   have hal:=wA wr (.cells #[x1,x2] 173)
   have gX:=rB wr (.cells #[x1,x2] 173)
   have cN2:=((bcell hal).1 BN 0 (tA hN (pA hs1 hsz))).trans cN
   have cM2:=((bcell hal).1 BM 0 (tA hM (pA hs1 hsz))).trans cM
   have eX0:(wr.alloc (.cells #[x1,x2] 173)).cell? ⟨wr.heap.size,0,none⟩=yA (.int .i64 x1):=jA gX 0
   have eX1:(wr.alloc (.cells #[x1,x2] 173)).cell? ⟨wr.heap.size,1,none⟩=yA (.int .i64 x2):=jA gX 1
   have HTX:=fA (HT.out x1 x2)
   obtain ⟨t,ht⟩:∃ t,t=xY (x1,x2) limit:=⟨_,rfl⟩
   rw [<- ht] at HTX
   have HTT:=fA ht
   clear ht
   have hNl:=tA hN (pA hs1 (pA hsz hal.size))
   have hMl:=tA hM (pA hs1 (pA hsz hal.size))
   by_cases hlive:now<=t
   ·have hdec:decide (now<=t)=true:=decide_eq_true hlive
    have HFT:Hid ((ys.take (k+1)).filter (fun x=>decide (now<=xY x limit))=(ys.take k).filter (fun x=>decide (now<=xY x limit)) ++ [(x1,x2)]):=fA (by rw [HSK.out,if_pos (by rw [<- HTT.out];exact hdec)])
    gi_upto_region 3 with fail
    generalize wr.alloc (.cells #[x1,x2] 173)=W2 at *
    refine jW (S:=fun V:uA=>V.cell? ⟨BN,0,none⟩=yA (.int .i64 now)/\V.cell? ⟨BM,0,none⟩=yA (.int .i64 limit)/\V.cell? ⟨wr.heap.size,0,none⟩=yA (.int .i64 x1)/\V.cell? ⟨wr.heap.size,1,none⟩=yA (.int .i64 x2)) 8 ⟨cN2,cM2,eX0,eX1⟩ fun hH => ?_
    refine gW [100,101,102] ?_
    refine oW 3 fun K hK => ?_
    go_simp
    gi_wp2_with (gi_at_call 204;refine (HTX.out _).mono ?_;rintro e w3 ⟨rfl,hb3⟩;have hb3':Below W2.heap.size W2 w3:=⟨hb3.os,hb3.tape,hb3.output,hb3.size,hb3.block⟩;have hb03:=hal.trans (hb3'.mono hal.size);have hS3:(fun V:uA=>V.cell? ⟨BN,0,none⟩=yA (.int .i64 now)/\V.cell? ⟨BM,0,none⟩=yA (.int .i64 limit)/\V.cell? ⟨wr.heap.size,0,none⟩=yA (.int .i64 x1)/\V.cell? ⟨wr.heap.size,1,none⟩=yA (.int .i64 x2)) w3:=⟨((bcell hb3').1 BN 0 hNl).trans cN2,((bcell hb3').1 BM 0 hMl).trans cM2,((bcell hb3').1 wr.heap.size 0 (eB gX)).trans eX0,((bcell hb3').1 wr.heap.size 1 (eB gX)).trans eX1⟩)
    refine hK _ _ hS3 fun hH => ?_
    clear hK K
    try simp only [nP]
    refine gW [104,105,106,107] ?_
    refine xW ?_
    refine tR 8 fun K hK => ?_
    go_simp
    obtain ⟨fn,ftm,fas,fbo,hy,hR⟩:=HY.out _ (x1,x2) w3 (HJ.out _ wr w3 none JK.out (nG hb03) (fun r e=>by cases e)) (by have:=eC (fun x:Bt=>decide (now<=xY x limit)) (ys.take k);rw [List.length_take] at this;omega)
    dsimp only at hy
    rw [hy]
    simp only [Oper.uponIn_round]
    refine ⟨fun h=>(by rw [hdp] at h;cases h),hR.mono ?_⟩
    rintro e w4 (⟨rfl,hJ4,hk4⟩ | ⟨rfl,hJx4⟩)
    all_goals (refine hK _ _ ?_)
    all_goals (clear hK K)
    all_goals (try simp only [nP])
    all_goals (refine tR 9 fun K hK => ?_)
    all_goals (go_simp)
    all_goals (refine hK _ _ ?_)
    all_goals (clear hK K)
    all_goals (try simp only [nP])
    all_goals (refine tR 10 fun K hK => ?_)
    all_goals (go_simp)
    all_goals (refine hK _ _ ?_)
    all_goals (clear hK K)
    all_goals (try simp only [nP])
    all_goals (refine dR ?_)
    all_goals gi_wp2
    ·go_roundw
     case rel=>exact ⟨k+1,by omega,by go_num,fA (by rw [HFT.out];exact hJ4),fA (eV KK.out (eV (oM hb03) hk4)),pA hsz (pA hb03.size hk4.1)⟩
     case measure=>simp [intOf];omega
    ·refine bodyPost_ret (results_none rfl _ _ _) rfl ?_
     exact ⟨⟨_,rfl⟩,.inr ⟨_,by rw [<- HFT.out];exact (List.take_prefix _ _).filter _,hJx4⟩⟩
   ·have hdec:decide (now<=t)=false:=decide_eq_false hlive
    gi_upto_region 3 with fail
    generalize wr.alloc (.cells #[x1,x2] 173)=W2 at *
    refine jW (S:=fun V:uA=>V.cell? ⟨BN,0,none⟩=yA (.int .i64 now)/\V.cell? ⟨BM,0,none⟩=yA (.int .i64 limit)/\V.cell? ⟨wr.heap.size,0,none⟩=yA (.int .i64 x1)/\V.cell? ⟨wr.heap.size,1,none⟩=yA (.int .i64 x2)) 11 ⟨cN2,cM2,eX0,eX1⟩ fun hH => ?_
    refine gW [100,101,102] ?_
    refine oW 3 fun K hK => ?_
    go_simp
    gi_wp2_with (gi_at_call 204;refine (HTX.out _).mono ?_;rintro e w3 ⟨rfl,hb3⟩;have hb3':Below W2.heap.size W2 w3:=⟨hb3.os,hb3.tape,hb3.output,hb3.size,hb3.block⟩;have hb03:=hal.trans (hb3'.mono hal.size);have hS3:(fun V:uA=>V.cell? ⟨BN,0,none⟩=yA (.int .i64 now)/\V.cell? ⟨BM,0,none⟩=yA (.int .i64 limit)/\V.cell? ⟨wr.heap.size,0,none⟩=yA (.int .i64 x1)/\V.cell? ⟨wr.heap.size,1,none⟩=yA (.int .i64 x2)) w3:=⟨((bcell hb3').1 BN 0 hNl).trans cN2,((bcell hb3').1 BM 0 hMl).trans cM2,((bcell hb3').1 wr.heap.size 0 (eB gX)).trans eX0,((bcell hb3').1 wr.heap.size 1 (eB gX)).trans eX1⟩)
    refine hK _ _ hS3 fun hH => ?_
    clear hK K
    try simp only [nP]
    refine gW [104,105,206,207,208,209,110,300] ?_
    gi_wp2
    go_roundw
    case rel=>exact ⟨k+1,by omega,by go_num,fA (by rw [HSK.out,if_neg (by rw [<- HTT.out,hdec];decide),List.append_nil];exact HJ.out _ wr w3 none JK.out (nG hb03) (fun r e=>by cases e)),fA (eV KK.out (oM hb03)),pA hsz hb03.size⟩
    case measure=>simp [intOf];omega
  ·have hk1:¬ (k:Int)<(ys.length:Int):=by omega
   have hke:k=ys.length:=by omega
   subst hke
   rw [List.take_of_length_le (mA _)] at JK
   gi_wp2
   go_end0
   exact ⟨⟨_,rfl⟩,.inl JK.out⟩
end
section
open Go.Shelf
attribute [local go_sem] dL
theorem zLm {B:Nat -> Prop} {T t e:tC} {W w1:uA} {D base size n:Nat} {v v':uB} {xs:List uB} {tmp:Obj} (hv:Boxed W D t v) (hTt:T≠t) (hTe:T≠e) (hrow:W.ownsRow base e size v n xs) (hB:∀ k,B k -> k<base/\k≠D) (hg:(W.alloc tmp).grownBy w1 v.ownBlock):zDV B T W (w1.setCell ⟨D,0,none⟩ v'):=by
 have hs:=hg.size
 rw [wB] at hs
 have hg2:=jZ w1 D v'
 have key:∀ k,k<W.heap.size -> k≠D -> yA k≠v.ownBlock -> (w1.setCell ⟨D,0,none⟩ v').heap[k]?=W.heap[k]?:=fun k hk h1 h2=>by
  rw [hg2.block k (by omega) (fun e=>h1 (by injection e)),hg.block k (by rw [wB];omega) h2]
  exact Below.heap_alloc W tmp k hk
 refine ⟨by have:=hg2.size;omega,fun k hk hl=>key k hl (hB k hk).2 (fun e => ?_),fun k cs fr h=>(key k (eB h) (fun e => ?_) (fun e => ?_)).trans h⟩
 ·have:=(hrow.lt k e.symm).1
  have:=(hB k hk).1
  omega
 ·subst e
  have h2:W.heap[k]?=_:=hv
  rw [h] at h2;injection h2 with h2;injection h2 with _ h2;exact hTt h2
 ·rcases hrow.2 with ⟨rfl,_⟩ | ⟨g,c,cur,rfl,_,hh,_⟩
  ·cases e
  ·have:k=g:=by simpa [Value.ownBlock] using e
   subst this
   rw [h] at hh;injection hh with hh;injection hh with _ hh;exact hTe hh
theorem zHe (n BL BN BM:Nat) (B:Nat -> Prop) (A:Option Addr) (c:Nat) (xs:List Bt) (now limit:Int) (w:uA) (hL:BL<w.heap.size) (cL:w.cell? ⟨BL,0,none⟩=yA (.slice A xs.length c)) (hN:BN<w.heap.size) (hNB:B BN) (cN:w.cell? ⟨BN,0,none⟩=yA (.int .i64 now)) (hM:BM<w.heap.size) (hMB:B BM) (cM:w.cell? ⟨BM,0,none⟩=yA (.int .i64 limit)) (h:yB zU w A c xs) :
  SeqStopsK uM n prog 203 #[(BL,0),(BN,0),(BM,0)] (fun x:Bt=>#[Value.agg #[x.1,x.2]]) (zDV B 173) (fun ys=>ys=zBe xs now limit) (fun pre=>pre <+: zBe xs now limit) (xs.length+1) w:=fun l J Jx W hW hJ _ hY h0 =>
 zKs n l BL BN BM B A c xs now limit J Jx W hY (tA hL hW.size) (((bcell hW).1 BL 0 hL).trans cL) (tA hN hW.size) hNB (((bcell hW).1 BN 0 hN).trans cN) (tA hM hW.size) hMB (((bcell hW).1 BM 0 hM).trans cM) (h.below hW) hJ h0
theorem zIn (A:Option Addr) (c:Nat) (xs:List Bt) (now limit:Int) (w:uA):Calls prog 120 #[.slice A xs.length c,now,limit] w fun e w'=>e=.returned (.func (.func 203) #[] #[(w.heap.size,0),(w.heap.size+1,0),(w.heap.size+2,0)])/\w'=((w.alloc (.cells #[.slice A xs.length c] 52)).alloc (.cells #[now] 3)).alloc (.cells #[limit] 3):=by
 go_enter func120,ntmps120
 go_wp2
 go_ret
 exact ⟨rfl,rfl⟩
def jM (xs:List Bt) (now limit:Int):List Int:=(zBe xs now limit).map (·.1)
theorem zDM (xs:List Bt) (now limit:Int):(jM xs now limit).length<=xs.length:=by
 have:(vG xs).length<=xs.length:=by unfold vG;split <;> simp
 unfold jM zBe
 rw [mC]
 exact pA (eC _ _) this
theorem zBZ (A:Option Addr) (c:Nat) (xs:List Bt) (now limit:Int) (w:uA) (h:yB zU w A c xs):Calls prog 58 #[.slice A xs.length c,now,limit] w (mD 3 1 (jM xs now limit).length (flat kG (jM xs now limit)) w):=by
 refine (lE (n:=5)).1 ?_
 have hmx:=h.max
 have HLV:Hid (∀ W,CallsIn uM (5 - 1) prog 120 #[.slice A xs.length c,now,limit] W fun e w'=>e=.returned (.func (.func 203) #[] #[.pointer (yA ⟨W.heap.size,0,none⟩),.pointer (yA ⟨W.heap.size+1,0,none⟩),.pointer (yA ⟨W.heap.size+2,0,none⟩)])/\w'=((W.alloc (.cells #[.slice A xs.length c] 52)).alloc (.cells #[now] 3)).alloc (.cells #[limit] 3)):=fA fun W=>lE.2 (zIn A c xs now limit W)
 refine callsIn_of_wp_marks func58 rfl trivial ?_ rfl
 simp only [ntmps58,qJ,qD,sH,iJ,oN,nI,mI,xK,pJ,wE,zL]
 have hfn:∀ k,Fence.wide.fn k:=fun _=>trivial
 have hdp:Fence.wide.depth=none:=rfl
 gi_wp2_with (gi_at_call 120;refine (HLV.out _).mono ?_;rintro e w1 ⟨rfl,hw1⟩)
 have hs1:w1.heap.size=w.heap.size+4:=by rw [hw1];simp
 have HB0:Below w.heap.size w w1:=by rw [hw1];exact zAF (zAF (zAF (wA w _) (by simp) _) (by simp;omega) _) (by simp;omega) _
 have bO:Boxed w1 w.heap.size 63 (.slice none 0 0):=by rw [hw1];exact (((zBr w 63 (.slice none 0 0)).alloc _).alloc _).alloc _
 have bL:Boxed w1 (w.heap.size+1) 52 (.slice A xs.length c):=by rw [hw1];have:=zBr (w.alloc (.cells #[.slice none 0 0] 63)) 52 (.slice A xs.length c);rw [wB] at this;exact (this.alloc _).alloc _
 have bN:Boxed w1 (w.heap.size+1+1) 3 (.int .i64 now):=by rw [hw1];have:=zBr ((w.alloc (.cells #[.slice none 0 0] 63)).alloc (.cells #[.slice A xs.length c] 52)) 3 (.int .i64 now);rw [wB,wB] at this;exact this.alloc _
 have bM:Boxed w1 (w.heap.size+1+2) 3 (.int .i64 limit):=by rw [hw1];have:=zBr (((w.alloc (.cells #[.slice none 0 0] 63)).alloc (.cells #[.slice A xs.length c] 52)).alloc (.cells #[now] 3)) 3 (.int .i64 limit);rw [wB,wB,wB] at this;exact this
 rw [<- hw1]
 clear hw1
 obtain ⟨i0,hi0,hz0,hz1,hz2⟩:=info_parts tN.info
 have hEI:=fA (OwnFrom.and (Own.from (holdsRow_own (β:=List Bt) w1.heap.size w.heap.size 63 3 1 (fun pre=>pre.length) (fun pre=>flat kG (pre.map (·.1))) (fun pre v=>∃ g c,v=.slice g pre.length c)) w1.heap.size) (ownFrom_below (w₀:=w1) HB0.size HB0.size))
 refine wpIn_rangeFunc_ownH rfl (by omega) (gf:=203) (lb:=#[.pointer (yA ⟨w.heap.size+1,0,none⟩),.pointer (yA ⟨w.heap.size+1+1,0,none⟩),.pointer (yA ⟨w.heap.size+1+2,0,none⟩)]) rfl trivial (enters_of func203 (by kernel_rfl) rfl)
  (zHe (5 - 1) (w.heap.size+1) (w.heap.size+1+1) (w.heap.size+1+2) (fun k=>k<w1.heap.size/\k≠w.heap.size) A c xs now limit w1 (by omega) bL.cell (by omega) ⟨by omega,by omega⟩ bN.cell (by omega) ⟨by omega,by omega⟩ bM.cell (h.below HB0)) (fun h k=>eV h k) (zLn (fun k hk=>hk.1)) (cC _ _) (fun _=>rfl)
  (fun pre W=>(∃ v,Boxed W w.heap.size 63 v/\W.ownsRow w1.heap.size 3 1 v pre.length (flat kG (pre.map (·.1)))/\∃ g c,v=.slice g pre.length c)/\Below w.heap.size w1 W)
  (fun _ _ _=>False) hEI.out (fun _ _ _ _ _ hs _ _=>hs) ⟨⟨_,bO,World.ownsRow_nil _ _ _ _,none,0,rfl⟩,cC _ _⟩
  (fun x a' W=>∃ X,w1.heap.size<=X/\W.heap[X]?=yA (.cells #[.int .i64 x.1,.int .i64 x.2] 173)/\a'={ tmps:=#[.slice A xs.length c,.int .i64 now,.int .i64 limit,vB,vB,vB,.slice none 0 0,.pointer (yA ⟨w.heap.size,0,none⟩),.pointer (yA ⟨X,0,none⟩),.slice A xs.length c,.int .i64 now,.int .i64 limit,.func (.func 203) #[] #[.pointer (yA ⟨w.heap.size+1,0,none⟩),.pointer (yA ⟨w.heap.size+1+1,0,none⟩),.pointer (yA ⟨w.heap.size+1+2,0,none⟩)],.agg #[.int .i64 x.1,.int .i64 x.2],vB,vB,vB,vB,vB,vB],defers:=[] })
  (by
   rintro x a' _ W W' row ⟨X,h1,h2,h3⟩ hg hr
   refine ⟨X,h1,(hg.block X (eB h2) (fun e => ?_)).trans h2,h3⟩
   obtain ⟨_,o,ho,hc⟩:=hr X e.symm
   rw [h2] at ho;cases ho;cases hc) ?assign ?body ?done ?stop
 case assign =>
  rintro l pre ⟨x1,x2⟩ W K hi hK
  have hsW:=hi.2.size
  gi_wp2
  exact hK _ _ ((kO _ _).from _) (oM (wA W _)) (hEI.out.alloc _ hi) ⟨W.heap.size,hsW,rB W _,rfl⟩
 case body =>
  rintro l pre ⟨x1,x2⟩ a' W hl ⟨r,hr⟩ ⟨⟨v,hv,hrow,g,cc,rfl⟩,hB⟩ ⟨X,hX,gX,rfl⟩ hlt
  have hc:=hv.cell
  have hX0:=jA gX 0
  have hsW:=hB.size
  have hlx:pre.length<=1000001:=by omega
  gi_wp2_with (gi_at_builtin;refine wpListIn_append_own _ rfl _ _ 63 rfl w1.heap.size 3 i0 (.int .i64 0) 1 8 underlying63 hi0 hz0 hz1 hz2 rfl (by decide) _ _ _ rfl (hrow.alloc _) ⟨W.heap.size,0,none⟩ 1 1 [.int .i64 x1] rfl rfl (cell_one_new _ _ _) (by simp [Value.oneCell']) (by unfold maxLen;omega) (by omega) (by simp;omega) ?_;intro v' w2 hown' hgrow _;obtain ⟨g',cap',rfl⟩:=ownsRow_succ hown';obtain ⟨hv1,hv2,hr2,hk2,hb2⟩:=hv.appended (by decide) (oC hrow HB0.size) (pA HB0.size hsW) (mA _) (oC hown' HB0.size) hgrow;have hc1:=hv1.cell;have hf1:=hv1.frozen)
  refine ⟨hk2.from _,zLm hv (by decide) (by decide) hrow (fun k hk=>⟨by omega,by omega⟩) hgrow,⟨_,hv2,?_,yA ⟨g',0,none⟩,cap',by simp⟩,hB.trans hb2⟩
  have:=hown'.kept (jZ w2 w.heap.size (.slice (yA ⟨g',0,none⟩) (pre.length+1) cap')) (.inr (hv1.not_row (by decide) hown').symm)
  rw [List.map_append,uD,List.length_append]
  rw [hs1] at this
  exact this
 case done =>
  rintro D ys W hD rfl ⟨⟨v,hv,hrow,g,cc,rfl⟩,hB⟩ hK
  have hc:=hv.cell
  gi_wp2
  refine ⟨by simp,.inl ⟨_,_,rfl,run_takeDeferred hK,?_⟩⟩
  refine ⟨_,results_tmp rfl _ _ _,g,cc,?_,?_,?_⟩
  ·unfold jM;rw [mC];rfl
  ·unfold jM
   rw [mC]
   exact oC (ownsRow_putObj hrow _ hK rfl) HB0.size
  ·exact HB0.trans (hB.trans (belowK_b (w:=w1) HB0.size W D _ _ hD hK rfl rfl))
 case stop =>
  rintro D c pre W _ _ h _
  exact h.elim
end
end Go.Proofs.YtogbpifcmhafkaaGreat
