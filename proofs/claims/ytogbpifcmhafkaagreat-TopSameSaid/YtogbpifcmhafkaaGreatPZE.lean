/-
 Part PZE of the proof.
-/
import Derived.Test.YtogbpifcmhafkaaGreatPZC
import Derived.Shelf.SlSortCmp.NoneTotal
open Array renaming getElem?_eq_getElem->kW,getElem?_modify->cR,getElem?_toList->vL,length_toList->dK
open Bool renaming eq_iff_iff->mT
open Go renaming Calls->iA,Value->uB,World->uA
open Go.Lib renaming bitLen->dQ,hid->fA
open Go.Proofs.Tryz renaming prog->nL
open Go.Sort renaming ahead->bV
open List renaming eq_nil_of_length_eq_zero->lC,getElem?_eq_none->qF,getElem?_take_of_lt->pM
open Nat renaming le_refl->mA,lt_of_lt_of_le->tA
open Option renaming some->yA
namespace Go.Proofs.YtogbpifcmhafkaaGreat
open Go.RowKit Tryz
open Go.Lib(hid)
set_option linter.unusedVariables false
set_option linter.unusedSimpArgs false
set_option maxRecDepth 100000
set_option maxHeartbeats 16000000
section
open Go.Sort Go.Shelf
def zIT:Go.Shelf.Ren:=⟨fun | 6=>320 | 15=>224 | 14=>358 | 28=>302 | 29=>303 | 20=>375 | 21=>376 | 22=>377 | 23=>378 | 24=>379 | 25=>380 | 26=>381 | 27=>382 | 46=>387 | 47=>348 | 48=>349 | 49=>388 | 50=>389 | 57=>394 | n=>n,fun | 22=>47 | 24=>207 | 25=>402 | 3=>3 | 39=>187 | 0=>0 | 53=>62 | 55=>384 | 4=>4 | 46=>378 | 45=>377 | 50=>129 | 5=>5 | 9=>9 | 66=>423 | 70=>427 | 76=>446 | 77=>159 | n=>n,fun | n=>n⟩
theorem zLu:Go.Proofs.SlLaysF0.n6 nL zIT:={
 mixed:=by kernel_rfl
 f6:=⟨Tryz.f320.name,by decide,Tryz.func320.trans (congrArg yA (by kernel_rfl))⟩
 f14:=⟨Tryz.f358.name,by decide,Tryz.func358.trans (congrArg yA (by kernel_rfl))⟩
 f15:=Tryz.func224.trans (congrArg yA (by kernel_rfl))
 f20:=⟨Tryz.f375.name,by decide,Tryz.func375.trans (congrArg yA (by kernel_rfl))⟩
 f21:=⟨Tryz.f376.name,by decide,Tryz.func376.trans (congrArg yA (by kernel_rfl))⟩
 f22:=⟨Tryz.f377.name,by decide,Tryz.func377.trans (congrArg yA (by kernel_rfl))⟩
 f23:=⟨Tryz.f378.name,by decide,Tryz.func378.trans (congrArg yA (by kernel_rfl))⟩
 f24:=⟨Tryz.f379.name,by decide,Tryz.func379.trans (congrArg yA (by kernel_rfl))⟩
 f25:=⟨Tryz.f380.name,by decide,Tryz.func380.trans (congrArg yA (by kernel_rfl))⟩
 f26:=⟨Tryz.f381.name,by decide,Tryz.func381.trans (congrArg yA (by kernel_rfl))⟩
 f27:=⟨Tryz.f382.name,by decide,Tryz.func382.trans (congrArg yA (by kernel_rfl))⟩
 f28:=Tryz.func302.trans (congrArg yA (by kernel_rfl))
 f29:=Tryz.func303.trans (congrArg yA (by kernel_rfl))
 f46:=⟨Tryz.f387.name,by decide,Tryz.func387.trans (congrArg yA (by kernel_rfl))⟩
 f47:=Tryz.func348.trans (congrArg yA (by kernel_rfl))
 f48:=Tryz.func349.trans (congrArg yA (by kernel_rfl))
 f49:=⟨Tryz.f388.name,by decide,Tryz.func388.trans (congrArg yA (by kernel_rfl))⟩
 f50:=⟨Tryz.f389.name,by decide,Tryz.func389.trans (congrArg yA (by kernel_rfl))⟩
 f57:=⟨Tryz.f394.name,by decide,Tryz.func394.trans (congrArg yA (by kernel_rfl))⟩
 t0:=Tryz.underlying0
 a0:=Tryz.isAgg0
 z0:=Tryz.sizeOf0
 v0:=Tryz.zeroValue0
 t3:=Tryz.underlying3
 a3:=Tryz.isAgg3
 z3:=Tryz.sizeOf3
 v3:=Tryz.zeroValue3
 t4:=Tryz.underlying4
 a4:=Tryz.isAgg4
 z4:=Tryz.sizeOf4
 v4:=Tryz.zeroValue4
 t5:=Tryz.underlying5
 a5:=Tryz.isAgg5
 z5:=Tryz.sizeOf5
 v5:=Tryz.zeroValue5
 t9:=Tryz.underlying9
 a9:=Tryz.isAgg9
 z9:=Tryz.sizeOf9
 v9:=Tryz.zeroValue9
 t22:=Tryz.underlying47
 a22:=Tryz.isAgg47
 z22:=Tryz.sizeOf47
 v22:=Tryz.zeroValue47
 t25:=Tryz.underlying402
 a25:=Tryz.isAgg402
 z25:=Tryz.sizeOf402
 v25:=Tryz.zeroValue402
 t39:=Tryz.underlying187
 a39:=Tryz.isAgg187
 z39:=Tryz.sizeOf187
 v39:=Tryz.zeroValue187
 t45:=Tryz.underlying377
 a45:=Tryz.isAgg377
 z45:=Tryz.sizeOf377
 v45:=Tryz.zeroValue377
 t46:=Tryz.underlying378
 a46:=Tryz.isAgg378
 z46:=Tryz.sizeOf378
 v46:=Tryz.zeroValue378
 t50:=Tryz.underlying129
 a50:=Tryz.isAgg129
 z50:=Tryz.sizeOf129
 v50:=Tryz.zeroValue129
 t53:=Tryz.underlying62
 a53:=Tryz.isAgg62
 z53:=Tryz.sizeOf62
 v53:=Tryz.zeroValue62
 t55:=Tryz.underlying384
 a55:=Tryz.isAgg384
 z55:=Tryz.sizeOf384
 v55:=Tryz.zeroValue384
 t66:=Tryz.underlying423
 a66:=Tryz.isAgg423
 z66:=Tryz.sizeOf423
 v66:=Tryz.zeroValue423
 t70:=Tryz.underlying427
 a70:=Tryz.isAgg427
 z70:=Tryz.sizeOf427
 v70:=Tryz.zeroValue427
 t76:=Tryz.underlying446
 a76:=Tryz.isAgg446
 z76:=Tryz.sizeOf446
 v76:=Tryz.zeroValue446
 t77:=Tryz.underlying159
 a77:=Tryz.isAgg159
 z77:=Tryz.sizeOf159
 v77:=Tryz.zeroValue159 }
theorem zCW {α:Type} [Inhabited α] {enc:α -> List uB} {k:Nat} (hk:∀ x,(enc x).length=k) (ns:List α):(flatK enc k ns.toArray).toList=flat enc ns:=by
 apply List.ext_getElem?
 intro t
 by_cases ht:t<ns.length * k
 ·have k0:0<k:=Nat.pos_of_ne_zero (by rintro rfl;simp at ht)
  have hq:t / k<ns.length:=(Nat.div_lt_iff_lt_mul k0).2 ht
  have hm:t % k<k:=Nat.mod_lt _ k0
  have e:t=t / k * k+t % k:=(Nat.div_add_mod' t k).symm
  have hF:t<(flatK enc k ns.toArray).size:=by rw [size_flatK];simpa using ht
  rw [vL,kW hF,<- getElem!_pos _ t hF,get_flatK _ _ _ t (by simpa using ht),e,tK hk hq hm,<- e]
  have h1:(ns.toArray)[t / k]! = ns[t / k]'hq:=by rw [getElem!_pos _ _ (by simpa using hq)];simp
  rw [h1,getElem!_pos _ _ (by rw [hk];exact hm),List.getElem?_eq_getElem (by rw [hk];exact hm)]
 ·rw [qF (by rw [dK,size_flatK];simpa using ht),qF (by rw [jD hk];omega)]
theorem zMU {w:uA} {g n:Nat} {os:Array Obj} {cur:Array uB} {e:TypeId} {fr:Nat × Nat} (F:Array uB) (hb:w.heap[g]?=yA (.cells cur e fr)):(grow (putRow id (bV w n) g 0 F) os).heap[g]?=yA (.cells (putCells id 0 F cur) e fr):=by
 have hg:g<w.heap.size:=(Array.getElem?_eq_some_iff.1 hb).1
 rw [heap_grow_old _ _ (by simpa using hg)]
 simp [putRow,mapBlock,bV,cR,hb,onCells]
theorem zFh {w:uA} {g n:Nat} {os:Array Obj} (F:Array uB):w.grownBy (grow (putRow id (bV w n) g 0 F) os) (yA g):=by
 refine ⟨rfl,rfl,rfl,by simp,fun k hk hne => ?_⟩
 rw [heap_grow_old _ _ (by simpa using hk)]
 have:g≠k:=fun e=>hne (by rw [e])
 simp [putRow,mapBlock,bV,cR,this]
theorem zMV (cur F:Array uB) (h:F.size<=cur.size):(putCells id 0 F cur).toList.take F.size=F.toList:=by
 apply List.ext_getElem?
 intro j
 by_cases hj:j<F.size
 ·rw [pM hj,vL]
  simp [putCells,hj,show j<cur.size by omega]
 ·rw [List.getElem?_take_eq_none (by omega),qF (by simp;omega)]
def zDT (cf:Nd -> Nd -> Int) (ns:List Nd):List Nd:=(pdq (ltOf cf) ns.toArray 0 ns.length (dQ ns.length) true true).toList
theorem zFf {cf:Nd -> Nd -> Int} (hO:SWO (ltOf cf)) (ns:List Nd):PermIn 0 ns.length ns.toArray (pdq (ltOf cf) ns.toArray 0 ns.length (dQ ns.length) true true):=by
 have h:=pdq_sorts (ltOf cf) hO ns.toArray 0 ns.toArray.size (dQ ns.toArray.size) true true (Nat.zero_le _) (mA _) (Or.inl rfl)
 simpa using h.1
theorem zBF {cf:Nd -> Nd -> Int} (hO:SWO (ltOf cf)) (ns:List Nd):(zDT cf ns).length=ns.length:=by
 have:=(zFf hO ns).1
 unfold zDT
 rw [dK,this];simp
theorem zEr (ls:List Ld) (x y:Nd):ltOf (qT ls) x y=decide (kF ls x.1<kF ls y.1\/(kF ls x.1=kF ls y.1/\x.1<y.1)):=by
 unfold ltOf qT zDb zDb zDb gK
 rw [mT,decide_eq_true_iff,decide_eq_true_iff]
 repeat' split
 all_goals omega
theorem zRh (ls:List Ld):SWO (ltOf (qT ls)) where
 irrefl x:=by rw [zEr];simp
 trans x y z h1 h2:=by rw [zEr] at *;simp at *;omega
 ntrans x y z h1 h2:=by rw [zEr] at *;simp at *;omega
theorem zER (ls:List Ld) (x y:Nd):ltOf (fun a b=>-qT ls a b) x y=decide (kF ls y.1<kF ls x.1\/(kF ls x.1=kF ls y.1/\y.1<x.1)):=by
 unfold ltOf qT zDb zDb zDb gK
 simp only
 rw [mT,decide_eq_true_iff,decide_eq_true_iff]
 repeat' split
 all_goals omega
theorem zPE (ls:List Ld):SWO (ltOf (fun a b=>-qT ls a b)) where
 irrefl x:=by rw [zER];simp
 trans x y z h1 h2:=by rw [zER] at *;simp at *;omega
 ntrans x y z h1 h2:=by rw [zER] at *;simp at *;omega
theorem zFg (gf:Nat) (eg:∀ args w,(callFunc gf args).run nL w=.ok (.enter gf args) w) (ls:List Ld) (cf:Nd -> Nd -> Int) (hO:SWO (ltOf cf)) (L:Nat) (B:Option Addr) (d:Nat) (base:Nat) (A:Option Addr) (c:Nat) (ns:List Nd) (w:uA) (hbase:base<=w.heap.size)
  (hp:∀ (x y:Nd) (W:uA),yB zV W B d ls -> L<W.heap.size -> W.cell? ⟨L,0,none⟩=yA (.slice B ls.length d) -> iA nL gf #[.agg (qH x).toArray,.agg (qH y).toArray,.pointer (yA ⟨L,0,none⟩)] W fun e w'=>e=.returned (.int .i64 (cf x y))/\Mo W w')
  (h:yB zV w B d ls) (hBb:ls=[]\/∀ x ∈ zB B,x<base) (hl:L<base) (hL:w.cell? ⟨L,0,none⟩=yA (.slice B ls.length d)) (ho:w.ownsRow base 207 4 (.slice A ns.length c) ns.length (flat qH ns)) (hmx:ns.length<=1000000) :
  iA nL 320 #[.slice A ns.length c,.func (.func gf) #[] #[.pointer (yA ⟨L,0,none⟩)]] w fun e w'=>e=.returned (.tuple #[])/\w'.ownsRow base 207 4 (.slice A ns.length c) ns.length (flat qH (zDT cf ns))/\fD (zB A) w w':=by
 have hA:=qC ho
 rcases ho.2 with ⟨hv,h0⟩ | ⟨g,cap',cur,hv,hb,hh,hn,hc,hs,ht⟩
 ·have hn0:ns=[]:=lC h0
  subst hn0
  refine (AnyF.slices_SortFunc_none zLu A c _ w).mono ?_
  rintro e w' ⟨rfl,rfl⟩
  refine ⟨rfl,?_,fD.refl _ _⟩
  have:zDT cf []=[]:=lC (zBF hO [])
  rw [this];exact ho
 ·injection hv with e1 _ e3
  subst e1 e3
  have hlt:g<w.heap.size:=eB hh
  have hcs:ns.length * 4<=cur.size:=by rw [hs];exact Nat.mul_le_mul_right _ hn
  have hfl:=zCW yO ns
  have hH:HoldsK qH 4 w g 0 ns.toArray:=by
   intro j hj
   rw [size_flatK] at hj
   have hj':j<ns.length * 4:=by simpa using hj
   refine ⟨?_,by simp [World.frozen?,hh]⟩
   have hF:j<(flatK qH 4 ns.toArray).size:=by rw [size_flatK];exact hj
   rw [Nat.zero_add,jA hh,id,getElem!_pos _ j hF,<- vL,<- kW hF,<- vL,hfl,<- ht,pM hj']
  have hcmp:CmpLays nL gf #[.pointer (yA ⟨L,0,none⟩)] qH 4 cf g 0 ns.toArray.size w:=by
   intro m os dk hdk x y
   have hch:fD [g] w (sortWorldK qH 4 w g 0 m dk os):=(fD.refl [g] w).grown (zFh _) fun x hx=>by cases hx;exact .inl (by simp)
   refine (hp x y _ (h.chg2 hch (hBb.imp id fun q x hx=>by have:=q x hx;simp;omega)) (tA (tA hl hbase) hch.size) ((hch.cell (o:=0) (tA hl hbase) (by simp;omega)).trans hL)).mono ?_
   rintro e w' ⟨rfl,hm⟩
   exact ⟨rfl,hm.grow⟩
  have:=AnyQ.slices_SortFunc_eq zLu 4 Tryz.isAgg207 Tryz.sizeOf207 qH yO zCD cf hO gf #[.pointer (yA ⟨L,0,none⟩)] g 0 c ns.toArray w eg hcmp hH hlt (by simp;omega)
  refine this.mono ?_
  rintro e w' ⟨rfl,n,os,rfl⟩
  have hsz:=(zFf hO ns).1
  refine ⟨rfl,?_,(fD.refl _ w).grown (zFh _) fun x hx=>by cases hx;exact .inl (by simp [zB])⟩
  refine ⟨by rw [jD yO,zBF hO],.inr ⟨g,c,_,rfl,hb,zMU _ hh,hn,hc,by simp [putCells,hs],?_⟩⟩
  have e1:(flatK qH 4 (pdq (ltOf cf) ns.toArray 0 ns.toArray.size (dQ ns.toArray.size) true true)).size=ns.length * 4:=by rw [size_flatK];exact congrArg (· * 4) (hsz.trans (by simp))
  have e2:=zMV cur (flatK qH 4 (pdq (ltOf cf) ns.toArray 0 ns.toArray.size (dQ ns.toArray.size) true true)) (by rw [e1];exact hcs)
  rw [e1] at e2
  rw [e2]
  have e3:=zCW yO (zDT cf ns)
  unfold zDT at e3 ⊢
  simpa using e3
end
section
open Go.Sort
def zFY (ls:List Ld) (ns:List Nd):List Nd:=zDT (fun a b=>-qT ls a b) ns
def zRX (ls:List Ld) (ns:List Nd):List Nd:=zDT (qT ls) ns
theorem zFZ (ls:List Ld) (ns:List Nd):(zFY ls ns).length=ns.length:=zBF (zPE ls) ns
theorem zLv (ls:List Ld) (ns:List Nd):(zRX ls ns).length=ns.length:=zBF (zRh ls) ns
def zNv (ls:List Ld) (ns:List Nd) (w:uA) (e:Ending) (w':uA):Prop:=∃ F T A a B b,e=.returned (.func (.func 323) #[] #[(F,0),(T,0)])/\F<w'.heap.size/\T<w'.heap.size/\w'.cell? ⟨F,0,none⟩=yA (.slice A ns.length a)/\w'.cell? ⟨T,0,none⟩=yA (.slice B ns.length b)/\yB qH w' A a (zFY ls ns)/\yB qH w' B b (zRX ls ns)/\(∀ x ∈ zB A,x<w'.heap.size)/\(∀ x ∈ zB B,x<w'.heap.size)/\Below w.heap.size w w'
theorem zME (A:Option Addr) (a:Nat) (ns:List Nd) (B:Option Addr) (b:Nat) (ls:List Ld) (w:uA) (h:yB qH w A a ns) (h2:yB zV w B b ls):iA prog 255 #[.slice A ns.length a,.slice B ls.length b] w (zNv ls ns w):=by
 have hmx:=h.max
 obtain ⟨W,hW⟩:∃ W,W=w.alloc (.cells #[.slice B ls.length b] 115):=⟨_,rfl⟩
 have hb:Below w.heap.size w W:=by rw [hW];exact wA _ _
 have g1:W.heap[w.heap.size]?=yA (.cells #[.slice B ls.length b] 115):=by rw [hW];exact rB _ _
 have hsW:W.heap.size=w.heap.size+1:=by rw [hW];simp
 have HCL:Hid (∀ W',Below w.heap.size w W' -> iA prog 190 #[.slice A ns.length a] W' (mD 207 4 ns.length (flat qH ns) W')):=fA fun W' hb=>zEd A a ns.length (flat qH ns) W' (h.row.below hb) h.none_ (jD yO ns) (jF zCD ns) hmx
 have hBB:ls=[]\/∀ x ∈ zB B,x<W.heap.size:=(h2.blk (fun x e=>by cases e)).imp id fun q x hx=>tA (q x hx) hb.size
 have HS1:Hid (∀ A1 c1 W',Below W.heap.size W W' -> W'.ownsRow W.heap.size 207 4 (.slice A1 ns.length c1) ns.length (flat qH ns) -> iA prog 320 #[.slice A1 ns.length c1,.func (.func 321) #[] #[.pointer (yA ⟨w.heap.size,0,none⟩)]] W' fun e w'=>e=.returned (.tuple #[])/\w'.ownsRow W.heap.size 207 4 (.slice A1 ns.length c1) ns.length (flat qH (zFY ls ns))/\fD (zB A1) W' w'):=fA fun A1 c1 W' hb' ho =>
  zFg 321 (enters_of func321 (by kernel_rfl) rfl) ls (fun a b=>-qT ls a b) (zPE ls) w.heap.size B b W.heap.size A1 c1 ns W' hb'.size (fun x y W' f l e=>zKE w.heap.size B b ls x.1 x.2.1 x.2.2.1 x.2.2.2 y.1 y.2.1 y.2.2.1 y.2.2.2 W' f l e) ((h2.below hb).below hb') hBB (eB g1) (((bcell hb').1 w.heap.size 0 (eB g1)).trans (jA g1 0)) ho hmx
 have HS2:Hid (∀ A1 c1 W',Below W.heap.size W W' -> W'.ownsRow W.heap.size 207 4 (.slice A1 ns.length c1) ns.length (flat qH ns) -> iA prog 320 #[.slice A1 ns.length c1,.func (.func 322) #[] #[.pointer (yA ⟨w.heap.size,0,none⟩)]] W' fun e w'=>e=.returned (.tuple #[])/\w'.ownsRow W.heap.size 207 4 (.slice A1 ns.length c1) ns.length (flat qH (zRX ls ns))/\fD (zB A1) W' w'):=fA fun A1 c1 W' hb' ho =>
  zFg 322 (enters_of func322 (by kernel_rfl) rfl) ls (qT ls) (zRh ls) w.heap.size B b W.heap.size A1 c1 ns W' hb'.size (fun x y W' f l e=>zKF w.heap.size B b ls x.1 x.2.1 x.2.2.1 x.2.2.2 y.1 y.2.1 y.2.2.1 y.2.2.2 W' f l e) ((h2.below hb).below hb') hBB (eB g1) (((bcell hb').1 w.heap.size 0 (eB g1)).trans (jA g1 0)) ho hmx
 have HY:=fA (zFZ ls ns)
 have HZ:=fA (zLv ls ns)
 have HW:=fA hW
 clear h h2 g1 hW hBB
 go_enter func255,ntmps255
 go_wp2_with (first
  | (go_at_call 190;rw [<- HW.out];refine (HCL.out _ hb).mono ?_;clear HW;rintro e w1 ⟨A1,c1,rfl,own1,hb1⟩;have hw1:=hb.trans (hb1.mono hb.size))
  | (go_at_call 190;refine (HCL.out _ hw1).mono ?_;rintro e w2 ⟨A2,c2,rfl,own2,hb2⟩))
 have hs1:=hb1.size
 have hs2:=hb2.size
 have O1:=fA (jB own1 hb2)
 have HA1:=fA (fun x (hx:x ∈ zB A1)=>qC own1 x hx)
 have HA2:=fA (fun x (hx:x ∈ zB A2)=>qC own2 x hx)
 have O2:=fA own2
 have hw2:=hb1.trans (hb2.mono hb1.size)
 have hal:=yI w2 (.cells #[.slice A1 ns.length c1] 47) (.cells #[.slice A2 ns.length c2] 47)
 have gF:((w2.alloc (.cells #[.slice A1 ns.length c1] 47)).alloc (.cells #[.slice A2 ns.length c2] 47)).heap[w2.heap.size]?=yA (.cells #[.slice A1 ns.length c1] 47):=bG _ _ _
 have gT:((w2.alloc (.cells #[.slice A1 ns.length c1] 47)).alloc (.cells #[.slice A2 ns.length c2] 47)).heap[w2.heap.size+1]?=yA (.cells #[.slice A2 ns.length c2] 47):=sF _ _ _
 clear own1 own2
 generalize (w2.alloc (.cells #[.slice A1 ns.length c1] 47)).alloc (.cells #[.slice A2 ns.length c2] 47)=w3 at *
 have hw3:=hw2.trans (hal.mono hw2.size)
 go_wp2_with (first
  | (go_at_call 320;(with_reducible refine (HS1.out A1 c1 w3 hw3 (oC (jB O1.out hal) (mA _))).mono ?_);rintro e w4 ⟨rfl,own4,hc4⟩;have hw4:=hw3.trans (hc4.to_below (fun x hx=>(HA1.out x hx).1) hw3.size);have F4:=fA (hc4.keep gF (fun hx=>by have:=(HA1.out _ hx).2;omega));have T4:=fA (hc4.keep gT (fun hx=>by have:=(HA1.out _ hx).2;omega));have P4:=fA (xE (jB O2.out hal) hc4 (fun x hx hx2=>by have:=(HA1.out _ hx2).2;have:=(HA2.out _ hx).1;omega));have t4:=jA T4.out 0)
  | (go_at_call 320;(with_reducible refine (HS2.out A2 c2 w4 hw4 (oC P4.out (by omega))).mono ?_);rintro e w5 ⟨rfl,own5,hc5⟩;have hw5:=hw4.trans (hc5.to_below (fun x hx=>by have:=(HA2.out x hx).1;omega) hw4.size);have F5:=hc5.keep F4.out (fun hx=>by have:=(HA2.out _ hx).2;omega);have T5:=hc5.keep T4.out (fun hx=>by have:=(HA2.out _ hx).2;omega);have P5:=xE own4 hc5 (fun x hx hx2=>by have:=(HA1.out _ hx).2;have:=(HA2.out _ hx2).1;omega)))
 go_ret
 exact ⟨_,_,A1,c1,A2,c2,rfl,eB F5,eB T5,jA F5 0,jA T5 0,yB.of_own (by rw [HY.out];exact P5) (by rw [HY.out];exact hmx),yB.of_own (by rw [HZ.out];exact own5) (by rw [HZ.out];exact hmx),fun x hx=>(qC P5 x hx).2,fun x hx=>(qC own5 x hx).2,hb.trans (hw5.mono hb.size)⟩
end
end Go.Proofs.YtogbpifcmhafkaaGreat
