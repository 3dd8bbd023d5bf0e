/-
 Part PZH of the proof.
-/
import Derived.Test.YtogbpifcmhafkaaGreatPZE
import Derived.Test.YtogbpifcmhafkaaGreatPV
import Derived.Test.YtogbpifcmhafkaaGreatPZG
import Derived.StillTailTactics
open Array renaming replicate_succ->nI,replicate_zero->mI
open Go renaming Addr->mB,TypeId->tC,Value->uB,World->uA,callsIn_wide->lE,ownFrom_below->kQ,undef->vB
open Go.Fence renaming wide->uM
open Go.KeepsOthers renaming alloc->kO,of_grownBy->mK,setCell->sE
open Go.Lib renaming hid->fA
open Go.Oper renaming semAt_some->dL
open Go.RowKit renaming Hid->jC
open Go.RowKit.Below renaming refl->cC
open Go.Value renaming agg->vE
open Go.World renaming size_alloc->wB
open List renaming append_assoc->kE,append_toArray->pJ,cons_append->zL,find?_append->lW,findSome?_eq_none_iff->uV,length_cons->qD,length_nil->sH,mem_append->xD,mem_singleton->xB,nil_append->wE,push_toArray->xK,size_toArray->qJ,take_append_drop->jS,take_of_length_le->zC,take_succ_eq_append_getElem->tB
open Nat renaming le_refl->mA,le_trans->pA,lt_of_lt_of_le->tA,reduceAdd->iJ,reduceSub->oN
open Option renaming some->yA
namespace Go.Proofs.YtogbpifcmhafkaaGreat
open Go.RowKit Tryz
open Go.Lib(hid)
set_option linter.unusedVariables false
set_option linter.unusedSimpArgs false
set_option maxRecDepth 100000
set_option maxHeartbeats 16000000
section
open Go.Shelf
attribute [local go_sem] dL
def oP (fs ts:List Nd):List (Nd × Nd):=fs.flatMap fun x=>ts.map fun y=>(x,y)
def zDY (fs ts:List Nd) (k:Nat) (x:Nd) (j:Nat):List (Nd × Nd):=oP (fs.take k) ts ++ (ts.take j).map fun y=>(x,y)
theorem zKG (fs ts:List Nd):(oP fs ts).length=fs.length * ts.length:=by
 unfold oP
 induction fs with
 | nil=>simp
 | cons x fs ih=>rw [List.flatMap_cons,List.length_append,ih,List.length_map,qD,Nat.succ_mul,Nat.add_comm]
theorem zMH (fs ts:List Nd) (k:Nat) (x:Nd):zDY fs ts k x 0=oP (fs.take k) ts:=by simp [zDY]
theorem zMG (fs ts:List Nd) (k:Nat) (x:Nd) {j:Nat} (hj:j<ts.length):zDY fs ts k x (j+1)=zDY fs ts k x j ++ [(x,ts[j]'hj)]:=by
 unfold zDY
 rw [tB hj,List.map_append,kE]
 rfl
theorem zGt (fs ts:List Nd) {k:Nat} (hk:k<fs.length):zDY fs ts k (fs[k]'hk) ts.length=oP (fs.take (k+1)) ts:=by
 unfold zDY oP
 rw [zCX _ _ hk,zC (mA _)]
theorem zIE (fs ts:List Nd) {k:Nat} (hk:k<fs.length) (j:Nat):zDY fs ts k (fs[k]'hk) j <+: oP fs ts:=by
 have h1:zDY fs ts k (fs[k]'hk) j <+: oP (fs.take (k+1)) ts:=by
  rw [<- zGt fs ts hk]
  unfold zDY
  rw [zC (mA _)]
  exact List.prefix_append_right_inj _ |>.2 ((List.take_prefix j ts).map _)
 refine h1.trans ?_
 unfold oP
 conv=>rhs;rw [<- jS (k+1) fs,List.flatMap_append]
 exact List.prefix_append _ _
theorem zIc {α:Type} {enc:α -> List uB} {B:Nat -> Prop} {T:tC} {w w':uA} {A:Option mB} {c:Nat} {xs:List α} (h:yB enc w A c xs) (hk:zDV B T w w') (hB:∀ x ∈ zB A,B x):yB enc w' A c xs:=by
 refine ⟨?_,h.cap,h.none_,h.max⟩
 rcases h.row with q | ⟨b,off,rfl,hlt,hx⟩
 ·exact .inl q
 ·exact .inr ⟨b,off,rfl,tA hlt hk.1,fun i u hi=>by rw [kZ hk (hB b (by simp [zB])) hlt];exact hx i u hi⟩
theorem zMD (n l F T : Nat) (B : Nat -> Prop) (A : Option mB) (a : Nat) (fs : List Nd) (C : Option mB) (c : Nat) (ts : List Nd) (J Jx : List (Nd × Nd) -> uA -> Prop) (W : uA)
  (hY:∀ pre x W1,J pre W1 -> pre.length<fs.length * ts.length+1 -> YieldAt uM (n - 1) prog l #[.agg #[.int .i64 x.1.1,.int .i64 x.1.2.1,.int .i64 x.1.2.2.1,.int .i64 x.1.2.2.2],.agg #[.int .i64 x.2.1,.int .i64 x.2.2.1,.int .i64 x.2.2.2.1,.int .i64 x.2.2.2.2]] W1 fun e W'=>(e=.returned (.bool true)/\J (pre ++ [x]) W'/\zDV B 207 W1 W')\/(e=.returned (.bool false)/\Jx (pre ++ [x]) W'))
  (hF:F<W.heap.size) (cF:W.cell? ⟨F,0,none⟩=yA (.slice A fs.length a)) (hT:T<W.heap.size) (hTB:B T) (cT:W.cell? ⟨T,0,none⟩=yA (.slice C ts.length c)) (h1:yB qH W A a fs) (hA:∀ x ∈ zB A,B x) (h2:yB qH W C c ts) (hC:∀ x ∈ zB C,B x) (hJ:AbidesFrom W.heap.size J) (h0:J [] W) :
  CallsIn uM n prog 323 #[.func (.yield l) #[] #[],.pointer (yA ⟨F,0,none⟩),.pointer (yA ⟨T,0,none⟩)] W fun e W'=>(∃ v,e=.returned v)/\((∃ ys,ys=oP fs ts/\J ys W')\/(∃ pre,pre <+: oP fs ts/\Jx pre W')):=by
 have hm1:=h1.max
 have hm2:=h2.max
 have H1:=fA h1
 have H2:=fA h2
 have HY:=fA hY
 have HJ:=fA hJ
 have J0:=fA h0
 have K0:=fA (show zDV B 207 W W from oM (xC W))
 have HCT:=fA cT
 have HPL:=fA (zKG fs ts)
 clear h1 h2 hY hJ h0 cT
 refine callsIn_of_wp func323 rfl trivial ?_ rfl
 simp only [ntmps323,qJ,qD,sH,iJ,oN,nI,mI,xK,pJ,wE,zL]
 have hfn:∀ k,Fence.wide.fn k:=fun _=>trivial
 have hdp:Fence.wide.depth=none:=rfl
 gi_wp2
 gi_loopw [5,7,10] (fun v5 v7 i wr=>∃ (k:Nat),k<=fs.length/\i=.int .i64 (k:Int)/\jC (J (oP (fs.take k) ts) wr)/\jC (zDV B 207 W wr)) (fun _ _ i _=>fs.length - (intOf i).toNat)
 case atStart=>exact ⟨0,by omega,rfl,J0,K0⟩
 case round =>
  clear J0 K0
  obtain ⟨k,hk,rfl,JK,KK⟩:=hrel
  have hk0:(0:Int)<=(k:Int):=by omega
  by_cases hlt:k<fs.length
  ·have hk1:(k:Int)<(fs.length:Int):=by omega
   have HPF:=fA (zGt fs ts hlt)
   have HPP:=fA (fun j=>zIE fs ts hlt j)
   obtain ⟨b,off,rfl,blt,d0,d1,d2,d3⟩:=pR (zIc H1.out KK.out hA) hlt
   generalize (fs[k]'hlt)=x at *
   obtain ⟨x1,x2,x3,x4⟩:=x
   simp only at d0 d1 d2 d3
   have hal:=wA wr (zCb x1 x2 x3 x4)
   have GX:=fA (rB wr (zCb x1 x2 x3 x4))
   have cT:=((bcell hal).1 T 0 (tA hT KK.out.1)).trans ((kZ (o:=0) KK.out hTB hT).trans HCT.out)
   have hTl:=tA hT (pA KK.out.1 hal.size)
   have JK2:=fA (show J (zDY fs ts k (x1,x2,x3,x4) 0) _ from by rw [zMH];exact HJ.out _ wr _ none JK.out (nG hal) (fun r e=>by cases e))
   have KK2:=fA (eV KK.out (oM (B:=B) (T:=207) hal))
   clear JK KK
   gi_upto_region 3 with fail
   generalize wr.alloc (zCb x1 x2 x3 x4)=W2 at *
   gi_wp2
   clear cT hTl d0 d1 d2 d3 hal
   generalize wr.heap.size=X at *
   clear blt wr
   gi_loopw [7,16] (fun v7 i wr=>∃ (j:Nat),j<=ts.length/\i=.int .i64 (j:Int)/\jC (J (zDY fs ts k (x1,x2,x3,x4) j) wr)/\jC (zDV B 207 W wr)/\jC (wr.heap[X]?=yA (zCb x1 x2 x3 x4))) (fun _ i _=>ts.length - (intOf i).toNat)
   case atStart=>exact ⟨0,by omega,rfl,JK2,KK2,GX⟩
   case round =>
    clear JK2 KK2 GX
    obtain ⟨j,hj,rfl,JK,KK,GX⟩:=hrel
    have hj0:(0:Int)<=(j:Int):=by omega
    by_cases hjt:j<ts.length
    ·have hj1:(j:Int)<(ts.length:Int):=by omega
     have HPS:=fA (zMG fs ts k (x1,x2,x3,x4) hjt)
     have hpl:=(HPP.out j).length_le
     rw [HPL.out] at hpl
     obtain ⟨b2,off2,rfl,blt2,f0,f1,f2,f3⟩:=pR (zIc H2.out KK.out hC) hjt
     generalize (ts[j]'hjt)=y at *
     obtain ⟨y1,y2,y3,y4⟩:=y
     simp only at f0 f1 f2 f3
     have hal:=wA wr (zCb y1 y2 y3 y4)
     obtain ⟨p0,p1,p2,p3,_⟩:=nH (kA hal GX.out)
     obtain ⟨q0,q1,q2,q3,_⟩:=nH (rB wr (zCb y1 y2 y3 y4))
     obtain ⟨fn,ftm,fas,fbo,hy,hR⟩:=HY.out _ ((x1,x2,x3,x4),(y1,y2,y3,y4)) (wr.alloc (zCb y1 y2 y3 y4)) (HJ.out _ wr _ none JK.out (nG hal) (fun r e=>by cases e)) (by omega)
     dsimp only at hy
     have KK2:=fA (eV KK.out (oM (B:=B) (T:=207) hal))
     have GX2:=fA (kA hal GX.out)
     have HRH:=fA hR
     clear hR
     gi_wp2
     refine HRH.out.mono ?_
     rintro e w4 (⟨rfl,hJ4,hk4⟩ | ⟨rfl,hJx4⟩)
     ·gi_wp2
      go_roundw
      case rel=>exact ⟨j+1,by omega,by go_num,fA (by rw [HPS.out];exact hJ4),fA (eV KK2.out hk4),fA (hk4.2.2 _ _ _ GX2.out)⟩
      case measure=>simp [intOf];omega
     ·gi_wp2
      refine bodyPost_ret (results_none rfl _ _ _) rfl ?_
      exact ⟨⟨_,rfl⟩,.inr ⟨_,by rw [<- HPS.out];exact HPP.out (j+1),hJx4⟩⟩
    ·have hj1:¬ (j:Int)<(ts.length:Int):=by omega
     have hje:j=ts.length:=by omega
     subst hje
     gi_wp2
     go_roundw
     case rel=>exact ⟨k+1,by omega,by go_num,fA (by rw [<- HPF.out];exact JK.out),KK⟩
     case measure=>simp [intOf];omega
  ·have hk1:¬ (k:Int)<(fs.length:Int):=by omega
   have hke:k=fs.length:=by omega
   subst hke
   rw [zC (mA _)] at JK
   gi_wp2
   go_end0
   exact ⟨⟨_,rfl⟩,.inl JK.out⟩
theorem zIA (n F T:Nat) (B:Nat -> Prop) (A:Option mB) (a:Nat) (fs:List Nd) (C:Option mB) (c:Nat) (ts:List Nd) (w:uA) (hF:F<w.heap.size) (cF:w.cell? ⟨F,0,none⟩=yA (.slice A fs.length a)) (hT:T<w.heap.size) (hTB:B T) (cT:w.cell? ⟨T,0,none⟩=yA (.slice C ts.length c)) (h1:yB qH w A a fs) (hA:∀ x ∈ zB A,B x) (h2:yB qH w C c ts) (hC:∀ x ∈ zB C,B x) :
  SeqStopsK uM n prog 323 #[(F,0),(T,0)] (fun x:Nd × Nd=>#[vE #[x.1.1,x.1.2.1,x.1.2.2.1,x.1.2.2.2],vE #[x.2.1,x.2.2.1,x.2.2.2.1,x.2.2.2.2]]) (zDV B 207) (fun ys=>ys=oP fs ts) (fun pre=>pre <+: oP fs ts) (fs.length * ts.length+1) w:=fun l J Jx W hW hJ _ hY h0 =>
 zMD n l F T B A a fs C c ts J Jx W hY (tA hF hW.size) (((bcell hW).1 F 0 hF).trans cF) (tA hT hW.size) hTB (((bcell hW).1 T 0 hT).trans cT) (h1.below hW) hA (h2.below hW) hC hJ h0
end
section
open Go.Shelf
attribute [local go_sem] dL
def zRG (cs:List Ch) (ns:List Nd) (ls:List Ld) (th:Int) (p:Nd × Nd):Option Od :=
 if kF ls p.1.1 - kF ls p.2.1<=max th 1\/p.2.2.2.1<=kF ls p.2.1 then none
 else (cs.find? (fun c=>zAw c.2.2.2 ns p.1.1 p.2.1)).map (fun c=>(0,c.1,c.2.1,c.2.2.1,p.1.1,p.2.1,0))
def mvL (cs:List Ch) (ns:List Nd) (ls:List Ld) (th:Int) (ps:List (Nd × Nd)):Od:=(ps.findSome? (zRG cs ns ls th)).getD (0,0,0,0,0,0,0)
def zDN (cs:List Ch) (ns:List Nd) (al:List Int) (th:Int):Od :=
 if pG cs then mvL cs ns (gJ cs (zGY ns al)) th (oP (zFY (gJ cs (zGY ns al)) (zGY ns al)) (zRX (gJ cs (zGY ns al)) (zGY ns al))) else (0,0,0,0,0,0,0)
def NoMv (cs:List Ch) (ns:List Nd) (ls:List Ld) (th:Int) (pre:List (Nd × Nd)):Prop:=∀ p ∈ pre,zRG cs ns ls th p=none
def MvIx (cs:List Ch) (ns:List Nd) (ls:List Ld) (th:Int) (w:uA) (cd:Code) (pre:List (Nd × Nd)) (W:uA):Prop:=cd=Code.exit 0/\∃ ini x o,pre=ini ++ [x]/\NoMv cs ns ls th ini/\zRG cs ns ls th x=yA o/\W.heap[w.heap.size+4]?=yA (.cells (qL o).toArray 105)/\Below w.heap.size w W/\w.heap.size+5<=W.heap.size/\W.heap[w.heap.size+3]?=yA (uL 0 0 0 0 0 0 0)
theorem zRH (cs:List Ch) (ns:List Nd) (ls:List Ld) (th:Int) (x y:Nd):(kF ls x.1 - kF ls y.1<=max th 1\/y.2.2.1<=kF ls y.1 -> zRG cs ns ls th (x,y)=none)/\(¬ (kF ls x.1 - kF ls y.1<=max th 1\/y.2.2.1<=kF ls y.1) -> zRG cs ns ls th (x,y)=(cs.find? (fun c=>zAw c.2.2.2 ns x.1 y.1)).map (fun c=>(0,c.1,c.2.1,c.2.2.1,x.1,y.1,0))) :=
 ⟨fun h=>by unfold zRG;exact if_pos h,fun h=>by unfold zRG;exact if_neg h⟩
theorem zQV {P:Program} {c:Code} {K:Act -> uA -> Prop} {Q:Exit -> Act -> uA -> Prop} {a:Act} {w:uA} (h:c.wp P (Exit.then K (fun _ _ _=>False)) a w):c.wp P (Exit.then K Q) a w:=wp_mono h fun e a w h=>by cases e;exact h;all_goals exact h.elim
theorem zDh {w:uA} {F:Nat} {c0 c1 c2 c3 c4 c5 c6:uB} {t:tC} (h:w.heap[F]?=yA (.cells #[c0,c1,c2,c3,c4,c5,c6] t)) (x0 x1 x2 x3 x4 x5 x6:uB):(((((((w.setCell ⟨F,0,none⟩ x0).setCell ⟨F,1,none⟩ x1).setCell ⟨F,2,none⟩ x2).setCell ⟨F,3,none⟩ x3).setCell ⟨F,4,none⟩ x4).setCell ⟨F,5,none⟩ x5).setCell ⟨F,6,none⟩ x6).heap[F]?=yA (.cells #[x0,x1,x2,x3,x4,x5,x6] t):=by
 have:=zD (i:=6) (zD (i:=5) (zD (i:=4) (zD (i:=3) (zD (i:=2) (zD (i:=1) (zD (i:=0) h x0) x1) x2) x3) x4) x5) x6
 simpa using this
theorem bf7 {w:uA} {F:Nat} {c0 c1 c2 c3 c4 c5 c6:uB} {t:tC} (h:w.heap[F]?=yA (.cells #[c0,c1,c2,c3,c4,c5,c6] t)):w.cell? ⟨F,0,none⟩=yA c0/\w.cell? ⟨F,1,none⟩=yA c1/\w.cell? ⟨F,2,none⟩=yA c2/\w.cell? ⟨F,3,none⟩=yA c3/\w.cell? ⟨F,4,none⟩=yA c4/\w.cell? ⟨F,5,none⟩=yA c5/\w.cell? ⟨F,6,none⟩=yA c6/\w.frozen? ⟨F,0,none⟩=false/\w.frozen? ⟨F,1,none⟩=false/\w.frozen? ⟨F,2,none⟩=false/\w.frozen? ⟨F,3,none⟩=false/\w.frozen? ⟨F,4,none⟩=false/\w.frozen? ⟨F,5,none⟩=false/\w.frozen? ⟨F,6,none⟩=false/\F<w.heap.size :=
 ⟨jA h 0,jA h 1,jA h 2,jA h 3,jA h 4,jA h 5,jA h 6,qB h 0,qB h 1,qB h 2,qB h 3,qB h 4,qB h 5,qB h 6,eB h⟩
theorem zIR {w:uA} {F G:Nat} {o:Obj} (h:w.heap[G]?=yA o) (e:G≠F) (x0 x1 x2 x3 x4 x5 x6:uB):(((((((w.setCell ⟨F,0,none⟩ x0).setCell ⟨F,1,none⟩ x1).setCell ⟨F,2,none⟩ x2).setCell ⟨F,3,none⟩ x3).setCell ⟨F,4,none⟩ x4).setCell ⟨F,5,none⟩ x5).setCell ⟨F,6,none⟩ x6).heap[G]?=yA o:=pC (pC (pC (pC (pC (pC (pC h e _) e _) e _) e _) e _) e _) e _
theorem zKP {w0 w:uA} {F B:Nat} (h:Below B w0 w) (e:B<=F) (x0 x1 x2 x3 x4 x5 x6:uB):Below B w0 (((((((w.setCell ⟨F,0,none⟩ x0).setCell ⟨F,1,none⟩ x1).setCell ⟨F,2,none⟩ x2).setCell ⟨F,3,none⟩ x3).setCell ⟨F,4,none⟩ x4).setCell ⟨F,5,none⟩ x5).setCell ⟨F,6,none⟩ x6):=((((((h.setCell (p:=⟨F,0,none⟩) e _).setCell (p:=⟨F,1,none⟩) e _).setCell (p:=⟨F,2,none⟩) e _).setCell (p:=⟨F,3,none⟩) e _).setCell (p:=⟨F,4,none⟩) e _).setCell (p:=⟨F,5,none⟩) e _).setCell (p:=⟨F,6,none⟩) e _
theorem zOS {fn:Func} {p u:Tmp} {tmps:Array uB} {w:uA} {F:Nat} {a b c d e f g:Int} {r:uB} (hf:fn.results=#[.cell p 105,.tmp u]) (hp:tmps.getD p vB=.pointer (yA ⟨F,0,none⟩)) (hu:tmps.getD u vB=r) (h:w.heap[F]?=yA (uL a b c d e f g)):(results fn tmps).run prog w=.ok (.tuple #[.agg (qL (a,b,c,d,e,f,g)).toArray,r]) w:=by
 have z0:=jA h 0
 have z1:=jA h 1
 have z2:=jA h 2
 have z3:=jA h 3
 have z4:=jA h 4
 have z5:=jA h 5
 have z6:=jA h 6
 rw [results_cell_tmp hf,hp,hu]
 go_simp
 rfl
theorem zOL (A : Option mB) (a : Nat) (cs : List Ch) (B : Option mB) (b : Nat) (ns : List Nd) (C : Option mB) (c : Nat) (alive : List Int) (th : Int) (w : uA) (h : vM w A a cs) (h2 : yB qH w B b ns) (h3 : yB kG w C c alive) (hhs : ∀ x ∈ cs, x.2.2.2.length <= 1000) : Calls prog 185 #[.slice A cs.length a, .slice B ns.length b, .slice C alive.length c, th] w fun e w' => e = .returned (.tuple #[.agg (qL (zDN cs ns alive th)).toArray, .bool (decide (0 < (zDN cs ns alive th).2.1))]) /\ Below w.heap.size w w' := by
 refine (lE (n:=5)).1 ?_
 have hcm:=h.max
 have HMY:=fA (fun W (hb:Below w.heap.size w W)=>(lE (n:=5 - 1)).2 (pZ A a cs W (h.below hb)))
 have HFT:=fA (fun W (hb:Below w.heap.size w W)=>(lE (n:=5 - 1)).2 (zQt A a cs B b ns C c alive W (h.below hb) (h2.below hb) (h3.below hb)))
 generalize hfs:zGY ns alive=fs at *
 have HLO:jC (∀ x ∈ gJ cs fs,0<=x.2/\x.2<=1000000):=fA fun x hx=>⟨((uZ cs fs).1 x hx).1,Int.le_trans ((uZ cs fs).1 x hx).2 (by have:=hcm;omega)⟩
 generalize hls:gJ cs fs=ls at *
 have HPR:=fA (fun W F f L l (k1:yB qH W F f fs) (k2:yB zV W L l ls)=>(lE (n:=5 - 1)).2 (zME F f fs L l ls W k1 k2))
 refine callsIn_of_wp_marks func185 rfl trivial ?_ rfl
 simp only [ntmps185,qJ,qD,sH,iJ,oN,nI,mI,xK,pJ,wE,zL]
 have hfn:∀ k,Fence.wide.fn k:=fun _=>trivial
 have hdp:Fence.wide.depth=none:=rfl
 gi_wp2_with fail
 refine wpIn_wide.2 ?_
 refine wp_scope_straight ?_
 refine (wpIn_wide (n:=5)).1 ?_
 gi_wp2_with fail
 obtain ⟨W6,hW6,hal,hs6,g4,g5,g7,g8,g10⟩:=zIa w (.cells #[.slice A cs.length a] 48) (.cells #[.slice B ns.length b] 47) (.cells #[th] 3) (uL 0 0 0 0 0 0 0) (uL 0 0 0 0 0 0 0)
 simp only [wB,Nat.add_assoc,iJ]
 rw [<- hW6]
 clear hW6
 have HM:=fA (HMY.out W6 hal)
 have hmp:zDN cs ns alive th=if pG cs=true then mvL cs ns ls th (oP (zFY ls fs) (zRX ls fs)) else (0,0,0,0,0,0,0):=by unfold zDN;rw [hfs,hls]
 have HMP:=fA hmp
 clear hmp
 generalize pG cs=ok at *
 have HX:jC (∀ w1,Below W6.heap.size W6 w1 -> w1.heap[w.heap.size]?=yA (.cells #[.slice A cs.length a] 48)/\w1.heap[w.heap.size+1]?=yA (.cells #[.slice B ns.length b] 47)/\w1.heap[w.heap.size+2]?=yA (.cells #[th] 3)/\w1.heap[w.heap.size+3]?=yA (uL 0 0 0 0 0 0 0)/\w1.heap[w.heap.size+4]?=yA (uL 0 0 0 0 0 0 0)):=fA fun w1 hb=>⟨kA hb g4,kA hb g5,kA hb g7,kA hb g8,kA hb g10⟩
 have c4:=jA g4 0
 cases ok
 ·gi_wp2_with (gi_at_call 101;refine HM.out.mono ?_;rintro e w1 ⟨rfl,hb1⟩;obtain ⟨_,_,_,k8,k10⟩:=HX.out _ hb1;obtain ⟨z0,z1,z2,z3,z4,z5,z6,_⟩:=bf7 k10;obtain ⟨y0,y1,y2,y3,y4,y5,y6,f0,f1,f2,f3,f4,f5,f6,zl⟩:=bf7 k8)
  have hB1:=hal.trans (hb1.mono hal.size)
  have hF3:w.heap.size<=w.heap.size+3:=by omega
  refine ⟨.tuple #[.agg (qL (0,0,0,0,0,0,0)).toArray,.bool false],?_,?_⟩
  ·exact zOS rfl rfl rfl (zDh k8 _ _ _ _ _ _ _)
  ·rw [HMP.out]
   exact ⟨rfl,((((((((((((((hB1).setCell (p:=⟨w.heap.size+3,0,none⟩) hF3 _)).setCell (p:=⟨w.heap.size+3,1,none⟩) hF3 _)).setCell (p:=⟨w.heap.size+3,2,none⟩) hF3 _)).setCell (p:=⟨w.heap.size+3,3,none⟩) hF3 _)).setCell (p:=⟨w.heap.size+3,4,none⟩) hF3 _)).setCell (p:=⟨w.heap.size+3,5,none⟩) hF3 _)).setCell (p:=⟨w.heap.size+3,6,none⟩) hF3 _)⟩
 ·gi_wp2_with (first
   | (gi_at_call 101;refine HM.out.mono ?_;rintro e w1 ⟨rfl,hb1⟩;obtain ⟨k4,k5,k7,k8,k10⟩:=HX.out _ hb1;have z4:=jA k4 0;have z5:=jA k5 0;have z7:=jA k7 0;have hw1:=hal.trans (hb1.mono hal.size);have HF:=fA (HFT.out w1 hw1))
   | (gi_at_call 254;refine HF.out.mono ?_;rintro e w2 ⟨FA,fc,LB,ld,rfl,f1,f2,hb2⟩;have HF1:=fA f1;have HL1:=fA f2;clear f1 f2))
  have hs2:W6.heap.size<=w1.heap.size:=hb1.size
  have HLB:jC (∀ t,0<=kF ls t/\kF ls t<=1000000):=fA fun t=>⟨uR ls t fun x hx=>(HLO.out x hx).1,zDa ls t _ (by omega) fun x hx=>(HLO.out x hx).2⟩
  have hb12:=hb1.trans (hb2.mono hs2)
  refine wpIn_label ?_
  gi_wp2_with (gi_at_call 255;refine (HPR.out _ _ _ _ _ (HF1.out.alloc _) (HL1.out.alloc _)).mono ?_;rintro e w3 ⟨PF,PT,PA,pa,PB,pb,rfl,l1,l2,q1,q2,p1,p2,r1,r2,hb3⟩)
  have hb23:=hb1.trans ((hb2.trans (((wA w2 (.cells #[.slice LB ls.length ld] 115)).trans (hb3.mono (by rw [wB];omega))).mono hb2.size)).mono hs2)
  have hH3:=HX.out _ hb23
  refine wpIn_rangeFunc_ownH rfl (by omega) (gf:=323) (lb:=#[.pointer (yA ⟨PF,0,none⟩),.pointer (yA ⟨PT,0,none⟩)]) rfl trivial (enters_of func323 (by kernel_rfl) rfl)
   (zIA (5 - 1) PF PT (fun k=>k<w3.heap.size) PA pa (zFY ls fs) PB pb (zRX ls fs) w3 l1 (by rw [zFZ];exact q1) l2 l2 (by rw [zLv];exact q2) p1 r1 p2 r2) (fun h k=>eV h k) (zLn (fun k hk=>hk)) (cC _ _) (fun _=>rfl)
   (fun pre W=>Below w3.heap.size w3 W/\NoMv cs ns ls th pre)
   (MvIx cs ns ls th w)
   ?own ?ownx ⟨cC _ _,fun _ h=>by cases h⟩
   (fun x a' W=>∃ X Y,w3.heap.size<=X/\w3.heap.size<=Y/\W.heap[X]?=yA (.cells #[.int .i64 x.1.1,.int .i64 x.1.2.1,.int .i64 x.1.2.2.1,.int .i64 x.1.2.2.2] 207)/\W.heap[Y]?=yA (.cells #[.int .i64 x.2.1,.int .i64 x.2.2.1,.int .i64 x.2.2.2.1,.int .i64 x.2.2.2.2] 207)/\a'={ tmps:=#[.slice A cs.length a,.slice B ns.length b,.slice C alive.length c,.int .i64 th,.pointer (yA ⟨w.heap.size,0,none⟩),.pointer (yA ⟨w.heap.size+1,0,none⟩),vB,.pointer (yA ⟨w.heap.size+2,0,none⟩),.pointer (yA ⟨w.heap.size+3,0,none⟩),.bool false,.pointer (yA ⟨w.heap.size+4,0,none⟩),.slice FA fs.length fc,.pointer (yA ⟨w2.heap.size,0,none⟩),.pointer (yA ⟨X,0,none⟩),.pointer (yA ⟨Y,0,none⟩),vB,vB,vB,.slice A cs.length a,.bool true,.bool false,vB,.tuple #[.slice FA fs.length fc,.slice LB ls.length ld],.slice A cs.length a,.slice B ns.length b,.slice C alive.length c,.tuple #[.slice FA fs.length fc,.slice LB ls.length ld],.slice FA fs.length fc,.slice LB ls.length ld,.slice FA fs.length fc,.slice LB ls.length ld,.func (.func 323) #[] #[.pointer (yA ⟨PF,0,none⟩),.pointer (yA ⟨PT,0,none⟩)],.agg #[.int .i64 x.1.1,.int .i64 x.1.2.1,.int .i64 x.1.2.2.1,.int .i64 x.1.2.2.2],.agg #[.int .i64 x.2.1,.int .i64 x.2.2.1,.int .i64 x.2.2.2.1,.int .i64 x.2.2.2.2],vB,vB,vB,vB,vB,vB,vB,vB,vB,vB,vB,vB,vB,vB,vB,vB,vB,vB,vB,vB,vB,vB,vB,vB,vB,vB,vB,vB,vB,vB,vB,vB,vB,vB,vB,vB,vB,vB,vB,vB,vB,vB,vB,vB,vB,vB,vB,vB],defers:=[] })
   ?ax ?assign ?body ?done ?stop
  case own =>
   exact OwnFrom.and (kQ (w₀:=w3) (mA _) (mA _)) (fun _ _ _ _ hs _ _=>hs)
  case ownx =>
   rintro cd pre W W' row ⟨h1,ini,x,o,h2,h3,h4,h5,h6,h7,h8⟩ hg hr
   have kp:∀ {Z:Nat} {cs:Array uB} {t:tC},W.heap[Z]?=yA (.cells cs t) -> W'.heap[Z]?=yA (.cells cs t):=fun {Z cs t} hz=>(hg.block Z (eB hz) (fun e=>by
    obtain ⟨_,o,ho,hc⟩:=hr Z e.symm
    rw [hz] at ho;cases ho;cases hc)).trans hz
   have hs03:w.heap.size<=w3.heap.size:=by have:=hb23.size;omega
   exact ⟨h1,ini,x,o,h2,h3,h4,kp h5,kQ (β:=Unit) (w₀:=w) (mA _) hs03 () _ _ _ h6 hg hr,pA h7 hg.size,kp h8⟩
  case ax =>
   rintro x a' _ W W' row ⟨X,Y,h1,h2,h3,h4,h5⟩ hg hr
   have kp:∀ {Z:Nat} {cs:Array uB} {t:tC},W.heap[Z]?=yA (.cells cs t) -> W'.heap[Z]?=yA (.cells cs t):=fun {Z cs t} hz=>(hg.block Z (eB hz) (fun e=>by
    obtain ⟨_,o,ho,hc⟩:=hr Z e.symm
    rw [hz] at ho;cases ho;cases hc)).trans hz
   exact ⟨X,Y,h1,h2,kp h3,kp h4,h5⟩
  case assign =>
   rintro l pre ⟨⟨x1,x2,x3,x4⟩,⟨y1,y2,y3,y4⟩⟩ W K hi hK
   have hsW:=hi.1.size
   gi_wp2
   have hal2:=yI W (.cells #[x1,x2,x3,x4] 207) (.cells #[y1,y2,y3,y4] 207)
   exact hK _ _ (((kO _ _).trans (kO _ _)).from _) (oM hal2) ⟨hi.1.trans (hal2.mono hsW),hi.2⟩ ⟨W.heap.size,W.heap.size+1,hsW,by omega,bG _ _ _,sF _ _ _,rfl⟩
  case body =>
   rintro l pre ⟨⟨x1,x2,x3,x4⟩,⟨y1,y2,y3,y4⟩⟩ a' W hl ⟨r,hr⟩ ⟨hB,hno⟩ ⟨X,Y,hX,hY,gX,gY,rfl⟩ hlt
   have hw3W:=hb23.trans (hB.mono hb23.size)
   obtain ⟨k4,k5,k7,k8,k10⟩:=HX.out _ hw3W
   have hbal:=(wA w2 (.cells #[.slice LB ls.length ld] 115)).trans (hb3.mono (by rw [wB];omega))
   have hsz23:w2.heap.size<w3.heap.size:=by have:=hb3.size;rw [wB] at this;omega
   have gL:W.heap[w2.heap.size]?=yA (.cells #[.slice LB ls.length ld] 115):=kA hB (kA hb3 (rB w2 _))
   have hbW2:Below w2.heap.size w2 W:=hbal.trans (hB.mono (by omega))
   have hmvx:=zRH cs ns ls th (x1,x2,x3,x4) (y1,y2,y3,y4)
   obtain ⟨lx,hlx⟩:∃ lx,lx=kF ls x1:=⟨_,rfl⟩
   obtain ⟨ly,hly⟩:∃ ly,ly=kF ls y1:=⟨_,rfl⟩
   have hbx:=HLB.out x1
   have hby:=HLB.out y1
   have HLY:jC (Calls prog 125 #[.slice LB ls.length ld,y1] W fun e w'=>e=.returned (.int .i64 ly)/\Below W.heap.size W w'):=fA (by rw [hly];exact eQ LB ld ls y1 W (HL1.out.below hbW2))
   have HLXX:jC (∀ w5,Below W.heap.size W w5 -> Calls prog 125 #[.slice LB ls.length ld,x1] w5 fun e w'=>e=.returned (.int .i64 lx)/\Below w5.heap.size w5 w'):=fA (fun w5 h=>by rw [hlx];exact eQ LB ld ls x1 w5 ((HL1.out.below hbW2).below h))
   rw [<- hlx] at hbx hmvx
   rw [<- hly] at hby hmvx
   have HMV:=fA hmvx
   have HLXE:=fA hlx
   have HLYE:=fA hly
   clear hlx hly hmvx
   have z2:=jA gL 0
   have zY0:=jA gY 0
   gi_wp2_with (gi_at_call 125;refine ((lE.2 HLY.out).inRound l).mono ?_;rintro e w5 ⟨rfl,hb5⟩)
   have hsub:IntKind.i64.wrap (lx - ly)=lx - ly:=oH (by omega) (by omega)
   have HLX:=fA (HLXX.out w5.drew ⟨hb5.os,hb5.tape,hb5.output,hb5.size,hb5.block⟩)
   have HS9:jC (∀ w6,Below w5.drew.heap.size w5.drew w6 -> (fun V:uA=>V.cell? ⟨w2.heap.size,0,none⟩=yA (.slice LB ls.length ld)/\V.cell? ⟨X,0,none⟩=yA (.int .i64 x1)/\V.cell? ⟨w.heap.size+2,0,none⟩=yA (.int .i64 th)/\V.cell? ⟨Y,2,none⟩=yA (.int .i64 y3)) w6):=fA fun w6 hb6'=>by
    have hb6:Below w5.heap.size w5 w6:=⟨hb6'.os,hb6'.tape,hb6'.output,hb6'.size,hb6'.block⟩
    have hb:=hb5.trans (hb6.mono hb5.size)
    exact ⟨jA (kA hb gL) 0,jA (kA hb gX) 0,jA (kA hb k7) 0,jA (kA hb gY) 2⟩
   have hS9:(fun V:uA=>V.cell? ⟨w2.heap.size,0,none⟩=yA (.slice LB ls.length ld)/\V.cell? ⟨X,0,none⟩=yA (.int .i64 x1)/\V.cell? ⟨w.heap.size+2,0,none⟩=yA (.int .i64 th)/\V.cell? ⟨Y,2,none⟩=yA (.int .i64 y3)) w5.drew:=HS9.out w5.drew (xC _)
   have HB6:=fA (fun (w6:uA) (hb6':Below w5.drew.heap.size w5.drew w6)=>hb5.trans ((⟨hb6'.os,hb6'.tape,hb6'.output,hb6'.size,hb6'.block⟩:Below w5.heap.size w5 w6).mono hb5.size))
   have HK:=fA (⟨k4,k5,k8,k10,gX,gY⟩:W.heap[w.heap.size]?=yA (.cells #[.slice A cs.length a] 48)/\W.heap[w.heap.size+1]?=yA (.cells #[.slice B ns.length b] 47)/\W.heap[w.heap.size+3]?=yA (uL 0 0 0 0 0 0 0)/\W.heap[w.heap.size+4]?=yA (uL 0 0 0 0 0 0 0)/\W.heap[X]?=yA (zCb x1 x2 x3 x4)/\W.heap[Y]?=yA (zCb y1 y2 y3 y4))
   clear k4 k5 k7 k8 k10 gX gY gL z2 zY0
   by_cases h1:lx - ly<=max th 1
   ·have hd1:decide (lx - ly<=max th 1)=true:=decide_eq_true h1
    refine jW (S:=fun V:uA=>V.cell? ⟨w2.heap.size,0,none⟩=yA (.slice LB ls.length ld)/\V.cell? ⟨X,0,none⟩=yA (.int .i64 x1)/\V.cell? ⟨w.heap.size+2,0,none⟩=yA (.int .i64 th)/\V.cell? ⟨Y,2,none⟩=yA (.int .i64 y3)) 15 hS9 fun hH => ?_
    refine gW [100,101,102,104,106,107] ?_
    refine oW 3 fun K hK => ?_
    go_simp
    gi_wp2_with (gi_at_call 125;refine ((lE.2 HLX.out).inRound l).mono ?_;rintro e w6 ⟨rfl,hb6⟩;have hS6:=HS9.out w6 hb6)
    refine hK _ _ hS6 fun hH => ?_
    clear hK K
    try simp only [nP]
    refine gW [105,108,109,210,211,212,213,114,300] ?_
    gi_wp2
    exact ⟨(mK (nG (HB6.out _ hb6)) (fun j o e=>by cases e)).from _,oM (HB6.out _ hb6),hB.trans ((HB6.out _ hb6).mono hB.size),fun p hp=>(xD.1 hp).elim (hno p) (fun q=>by rw [xB.1 q];exact HMV.out.1 (.inl h1))⟩
   ·have hd1:decide (lx - ly<=max th 1)=false:=decide_eq_false h1
    by_cases hrm:y3<=ly
    ·have hd2:decide (y3<=ly)=true:=decide_eq_true hrm
     refine jW (S:=fun V:uA=>V.cell? ⟨w2.heap.size,0,none⟩=yA (.slice LB ls.length ld)/\V.cell? ⟨X,0,none⟩=yA (.int .i64 x1)/\V.cell? ⟨w.heap.size+2,0,none⟩=yA (.int .i64 th)/\V.cell? ⟨Y,2,none⟩=yA (.int .i64 y3)) 15 hS9 fun hH => ?_
     refine gW [100,101,102,104,106,107] ?_
     refine oW 3 fun K hK => ?_
     go_simp
     gi_wp2_with (gi_at_call 125;refine ((lE.2 HLX.out).inRound l).mono ?_;rintro e w6 ⟨rfl,hb6⟩;have hS6:=HS9.out w6 hb6)
     refine hK _ _ hS6 fun hH => ?_
     clear hK K
     try simp only [nP]
     refine gW [105,108,109,110,111,112,113,114,300] ?_
     gi_wp2
     exact ⟨(mK (nG (HB6.out _ hb6)) (fun j o e=>by cases e)).from _,oM (HB6.out _ hb6),hB.trans ((HB6.out _ hb6).mono hB.size),fun p hp=>(xD.1 hp).elim (hno p) (fun q=>by rw [xB.1 q];exact HMV.out.1 (.inr hrm))⟩
    ·have hd2:decide (y3<=ly)=false:=decide_eq_false hrm
     refine jW (S:=fun V:uA=>V.cell? ⟨w2.heap.size,0,none⟩=yA (.slice LB ls.length ld)/\V.cell? ⟨X,0,none⟩=yA (.int .i64 x1)/\V.cell? ⟨w.heap.size+2,0,none⟩=yA (.int .i64 th)/\V.cell? ⟨Y,2,none⟩=yA (.int .i64 y3)) 15 hS9 fun hH => ?_
     refine gW [100,101,102,104,106,107] ?_
     refine oW 3 fun K hK => ?_
     go_simp
     gi_wp2_with (gi_at_call 125;refine ((lE.2 HLX.out).inRound l).mono ?_;rintro e w6 ⟨rfl,hb6⟩;have hS6:=HS9.out w6 hb6)
     refine hK _ _ hS6 fun hH => ?_
     clear hK K
     try simp only [nP]
     refine gW [105,108,109,110,111,112,113,114,300] ?_
     have HME:=fA (HMV.out.2 (by omega))
     have hbW6:=HB6.out _ hb6
     have HKW:=fA (fun (V:uA) (hb:Below W.heap.size W V)=>(⟨kA hb HK.out.1,kA hb HK.out.2.1,kA hb HK.out.2.2.1,kA hb HK.out.2.2.2.1,kA hb HK.out.2.2.2.2.1,kA hb HK.out.2.2.2.2.2⟩:V.heap[w.heap.size]?=yA (.cells #[.slice A cs.length a] 48)/\V.heap[w.heap.size+1]?=yA (.cells #[.slice B ns.length b] 47)/\V.heap[w.heap.size+3]?=yA (uL 0 0 0 0 0 0 0)/\V.heap[w.heap.size+4]?=yA (uL 0 0 0 0 0 0 0)/\V.heap[X]?=yA (zCb x1 x2 x3 x4)/\V.heap[Y]?=yA (zCb y1 y2 y3 y4)))
     have zA:=jA (HKW.out _ hbW6).1 0
     have HWW:=fA (hal.trans (hw3W.mono hal.size))
     gi_wp2
     gi_loopw [17,55] (fun v17 i wr=>∃ (k:Nat),k<=cs.length/\i=.int .i64 (k:Int)/\jC ((cs.take k).find? (fun c=>zAw c.2.2.2 ns x1 y1)=none)/\jC (Below W.heap.size W wr)) (fun _ i _=>cs.length - (intOf i).toNat)
     case atStart=>exact ⟨0,by omega,rfl,fA rfl,fA hbW6⟩
     case round =>
      obtain ⟨k,hk,rfl,HFN,HBR⟩:=hrel
      have hk0:(0:Int)<=(k:Int):=by omega
      by_cases hlt:k<cs.length
      ·have hk1:(k:Int)<(cs.length:Int):=by omega
       have HFS:jC (zAw (cs[k]'hlt).2.2.2 ns x1 y1=true -> cs.find? (fun c=>zAw c.2.2.2 ns x1 y1)=yA (cs[k]'hlt)):=fA fun hg=>by
        rw [show cs.find? (fun c=>zAw c.2.2.2 ns x1 y1)=(cs.take k ++ cs.drop k).find? (fun c=>zAw c.2.2.2 ns x1 y1) from by rw [jS],lW,HFN.out,List.drop_eq_getElem_cons hlt,List.find?_cons]
        simp only [hg]
        rfl
       have HFT:jC (zAw (cs[k]'hlt).2.2.2 ns x1 y1=false -> (cs.take (k+1)).find? (fun c=>zAw c.2.2.2 ns x1 y1)=none):=fA fun hg=>by
        rw [tB hlt,lW,HFN.out]
        simp [hg]
       have hln:=hhs _ (List.getElem_mem hlt)
       have hwr:=HWW.out.trans (HBR.out.mono HWW.out.size)
       obtain ⟨bk,off,ca,ccc,rfl,blt,d0,d1,d2,d3,hfl⟩:=(h.below hwr).cells hlt
       generalize (cs[k]'hlt)=x at *
       obtain ⟨c1,c2,c3,hs⟩:=x
       simp only at d0 d1 d2 d3 hfl hln
       have hal1:=wA wr (qN c1 c2 c3 ca hs.length ccc)
       have gC:=rB wr (qN c1 c2 c3 ca hs.length ccc)
       have hbW7:=HBR.out.trans (hal1.mono HBR.out.size)
       obtain ⟨m4,m5,m8,m10,mX,mY⟩:=HKW.out _ hbW7
       have HGO:=fA (zOf c1 c2 c3 ca ccc hs B b ns x1 y1 _ (hfl.below hal1) ((h2.below hwr).below hal1) hln)
       obtain ⟨gv,hgv⟩:∃ gv,gv=zAw hs ns x1 y1:=⟨_,rfl⟩
       simp only [<- hgv] at HFS HFT HGO
       have e0:=jA gC 0
       have e1:=jA gC 1
       have e2:=jA gC 2
       have e3:=jA gC 3
       have n5:=jA m5 0
       have nX:=jA mX 0
       have nY:=jA mY 0
       clear hgv hfl
       cases gv
       ·gi_wp2_with (gi_at_call 256;refine ((lE.2 HGO.out).inRound l).mono ?_;rintro e w7 ⟨rfl,hb7⟩)
        go_roundw
        case rel=>exact ⟨k+1,by omega,by go_num,fA (HFT.out trivial),fA (hbW7.trans (hb7.mono hbW7.size))⟩
        case measure=>simp [intOf];omega
       ·gi_wp2_with (gi_at_call 256;refine ((lE.2 HGO.out).inRound l).mono ?_;rintro e w7 ⟨rfl,hb7⟩;have gC7:=kA hb7 gC;have e70:=jA gC7 0;have e71:=jA gC7 1;have e72:=jA gC7 2;obtain ⟨p4,p5,p8,p10,pX,pY⟩:=HKW.out _ (hbW7.trans (hb7.mono hbW7.size));have qX:=jA pX 0;have qY:=jA pY 0;have q0:=jA p10 0;have q1:=jA p10 1;have q2:=jA p10 2;have q3:=jA p10 3;have q4:=jA p10 4;have q5:=jA p10 5;have q6:=jA p10 6;have f0:=qB p10 0;have f1:=qB p10 1;have f2:=qB p10 2;have f3:=qB p10 3;have f4:=qB p10 4;have f5:=qB p10 5;have f6:=qB p10 6)
        have h4b:w.heap.size<=w.heap.size+4:=by omega
        have hlt7:=eB p10
        exact ⟨((((((((mK (nG (hbW7.trans (hb7.mono hbW7.size))) (fun j o e=>by cases e)).trans (sE _ _ _)).trans (sE _ _ _)).trans (sE _ _ _)).trans (sE _ _ _)).trans (sE _ _ _)).trans (sE _ _ _)).trans (sE _ _ _)).from _,rfl,pre,_,(0,c1,c2,c3,x1,y1,0),rfl,hno,by rw [HME.out,HFS.out trivial];rfl,zDh p10 (.int .i64 0) (.int .i64 c1) (.int .i64 c2) (.int .u32 c3) (.int .i64 x1) (.int .i64 y1) (.int .i64 0),((((((((hwr.trans ((hal1.trans (hb7.mono hal1.size)).mono hwr.size)).setCell (p:=⟨w.heap.size+4,0,none⟩) h4b _).setCell (p:=⟨w.heap.size+4,1,none⟩) h4b _).setCell (p:=⟨w.heap.size+4,2,none⟩) h4b _).setCell (p:=⟨w.heap.size+4,3,none⟩) h4b _).setCell (p:=⟨w.heap.size+4,4,none⟩) h4b _).setCell (p:=⟨w.heap.size+4,5,none⟩) h4b _).setCell (p:=⟨w.heap.size+4,6,none⟩) h4b _),by simp [World.setCell];omega,pC (pC (pC (pC (pC (pC (pC (p8) (by omega) _) (by omega) _) (by omega) _) (by omega) _) (by omega) _) (by omega) _) (by omega) _⟩
      ·have hk1:¬ (k:Int)<(cs.length:Int):=by omega
       have hke:k=cs.length:=by omega
       subst hke
       rw [List.take_length] at HFN
       gi_wp2
       exact ⟨(mK (nG HBR.out) (fun j o e=>by cases e)).from _,oM HBR.out,hB.trans (HBR.out.mono hB.size),fun p hp=>(xD.1 hp).elim (hno p) (fun q=>by rw [xB.1 q,HME.out,HFN.out];rfl)⟩
  case' done =>
   rintro D ys W hD rfl ⟨hB,hno⟩ hK
   have hk:=HX.out _ (hb23.trans (hB.mono hb23.size))
   obtain ⟨_,_,_,k8,k10⟩:=hk
   have hm0:zDN cs ns alive th=(0,0,0,0,0,0,0):=by
    rw [HMP.out,if_pos trivial]
    unfold mvL
    rw [uV.2 hno]
    rfl
   have HM0:=fA hm0
   clear hm0
   have z0:=jA k10 0
   obtain ⟨o1,o2,o3,o4,o5,o6,o7,h1,h2,h3,h4,h5,h6,h7⟩:∃ o1 o2 o3 o4 o5 o6 o7:Int,o1=0/\o2=0/\o3=0/\o4=0/\o5=0/\o6=0/\o7=0:=⟨_,_,_,_,_,_,_,rfl,rfl,rfl,rfl,rfl,rfl,rfl⟩
   have k10:W.heap[w.heap.size+4]?=yA (uL o1 o2 o3 o4 o5 o6 o7):=by rw [h1,h2,h3,h4,h5,h6,h7];exact k10
   have HM0:jC (zDN cs ns alive th=(o1,o2,o3,o4,o5,o6,o7)):=fA (by rw [h1,h2,h3,h4,h5,h6,h7];exact HM0.out)
   clear h1 h2 h3 h4 h5 h6 h7 z0
   have hbW:=hal.trans ((hb23.trans (hB.mono hb23.size)).mono hal.size)
  case' stop =>
   rintro D cd pre W hD hp ⟨rfl,ini,x,o,hpre,hini,hxo,k10,hbW,hsW,k8⟩ hK
   have hm0:zDN cs ns alive th=o:=by
    rw [HMP.out,if_pos trivial]
    unfold mvL
    obtain ⟨tl,ht⟩:=hp
    rw [<- ht,hpre,kE,List.findSome?_append,uV.2 hini,List.singleton_append,List.findSome?_cons,hxo]
    rfl
   have HM0:=fA hm0
   clear hm0
   obtain ⟨o1,o2,o3,o4,o5,o6,o7⟩:=o
   have k10:W.heap[w.heap.size+4]?=yA (uL o1 o2 o3 o4 o5 o6 o7):=k10
  all_goals
   have hD5:w.heap.size+5<=D:=by have:=hb23.size;omega
   gi_wp2_with fail
   refine wpIn_wide.2 ?_
   refine zQV ?_
   have k8d:=k8
   have k10d:=k10
   obtain ⟨z0,z1,z2,z3,z4,z5,z6,_⟩:=bf7 k10d
   obtain ⟨y0,y1,y2,y3,y4,y5,y6,f0,f1,f2,f3,f4,f5,f6,_⟩:=bf7 k8d
   have hb6:=iB (zDh k8 (.int .i64 o1) (.int .i64 o2) (.int .i64 o3) (.int .u32 o4) (.int .i64 o5) (.int .i64 o6) (.int .i64 o7))
   have HF4:=fA (iB (zIR (F:=w.heap.size+3) k10 (by omega) (.int .i64 o1) (.int .i64 o2) (.int .i64 o3) (.int .u32 o4) (.int .i64 o5) (.int .i64 o6) (.int .i64 o7)))
   have HB6:=fA hb6
   clear hb6
   have h3b:w.heap.size<=w.heap.size+3:=by omega
   have HKD:=fA (iB (zIR (F:=w.heap.size+3) hK (by omega) (.int .i64 o1) (.int .i64 o2) (.int .i64 o3) (.int .u32 o4) (.int .i64 o5) (.int .i64 o6) (.int .i64 o7)))
   have HBL:=fA ((zKP (cC w.heap.size W) h3b (.int .i64 o1) (.int .i64 o2) (.int .i64 o3) (.int .u32 o4) (.int .i64 o5) (.int .i64 o6) (.int .i64 o7)).drew)
   refine iC (S:=fun V:uA=>V.cell? ⟨w.heap.size+4,0,none⟩=yA (.int .i64 o1)/\V.cell? ⟨w.heap.size+4,1,none⟩=yA (.int .i64 o2)/\V.cell? ⟨w.heap.size+4,2,none⟩=yA (.int .i64 o3)/\V.cell? ⟨w.heap.size+4,3,none⟩=yA (.int .u32 o4)/\V.cell? ⟨w.heap.size+4,4,none⟩=yA (.int .i64 o5)/\V.cell? ⟨w.heap.size+4,5,none⟩=yA (.int .i64 o6)/\V.cell? ⟨w.heap.size+4,6,none⟩=yA (.int .i64 o7)) [5] ⟨z0,z1,z2,z3,z4,z5,z6⟩ fun hH => ?_
   refine gU [100,1,102,3] ?_
   refine oU 4 fun K hK => ?_
   go_simp
   refine hK.out _ _ (⟨jA HF4.out 0,jA HF4.out 1,jA HF4.out 2,jA HF4.out 3,jA HF4.out 4,jA HF4.out 5,jA HF4.out 6⟩) fun hH => ?_
   clear hK K
   refine tU 5 fun K hK => ?_
   go_simp
   refine hK.out _ _ ?_
   clear hK K
   refine gU [300] ?_
   refine (by assumption:∀ (a:Act) (w:uA),_ -> _) _ _ ?_
   clear y0 y1 y2 y3 y4 y5 y6 z0 z1 z2 z3 z4 z5 z6 f0 f1 f2 f3 f4 f5 f6 hH
   generalize (((((((W.setCell ⟨w.heap.size+3,0,none⟩ (.int .i64 o1)).setCell ⟨w.heap.size+3,1,none⟩ (.int .i64 o2)).setCell ⟨w.heap.size+3,2,none⟩ (.int .i64 o3)).setCell ⟨w.heap.size+3,3,none⟩ (.int .u32 o4)).setCell ⟨w.heap.size+3,4,none⟩ (.int .i64 o5)).setCell ⟨w.heap.size+3,5,none⟩ (.int .i64 o6)).setCell ⟨w.heap.size+3,6,none⟩ (.int .i64 o7)).drew=WF at *
   gi_wp2
   refine ⟨by simp,.inl ⟨_,_,rfl,run_takeDeferred HKD.out,?_⟩⟩
   refine ⟨_,zOS (F:=w.heap.size+3) rfl rfl rfl ((World.putObj_heap_other (by omega)).trans HB6.out),?_⟩
   rw [HM0.out]
   exact ⟨rfl,(hbW).trans (HBL.out.trans (belowK_b (w:=w) (by omega) WF D _ _ (by omega) HKD.out rfl rfl))⟩
end
end Go.Proofs.YtogbpifcmhafkaaGreat
