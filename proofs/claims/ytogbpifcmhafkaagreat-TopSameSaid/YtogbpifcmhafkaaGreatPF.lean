/-
 Part PF of the proof.
-/
import Derived.Test.YtogbpifcmhafkaaGreatPE
import Derived.Laws.MakeOwn
import Derived.Deep.RegionLaw
import Derived.Deep.Cut
open Array renaming getElem?_eq_none->cG,replicate->pL,setIfInBounds_comm->qQ
open Bool renaming and_eq_true->kC
open Go renaming Act->lJ,Addr->mB,Calls->iA,Oper->zI,Program->xJ,Value->uB,World->uA,execOp->bS,getD_set_ne->zBc,mem_ready->pP,ready_mono->eO,undef->vB,yielded->oI
open Go.Code renaming region->wW
open Go.Lib renaming hid->fA
open Go.Region renaming Mode->oJ,binds->sL,free->zK,free_spec->pS,noSelect->tF,noSelect_spec->jK,ready->sC,wanted->eD
open List renaming mem_singleton->xB
open Nat renaming le_refl->mA,le_trans->pA,lt_or_ge->kI
open Option renaming some->yA
open UInt8 renaming ofNat->wK
namespace Go.Proofs.YtogbpifcmhafkaaGreat
open Go.RowKit Tryz
open Go.Lib(hid)
set_option linter.unusedVariables false
set_option linter.unusedSimpArgs false
set_option maxRecDepth 100000
set_option maxHeartbeats 16000000
theorem zHq (x y:UInt8):bits .xor .u8 (x.toNat:Int) (y.toNat:Int)=((x ^^^ y).toNat:Int):=by
 rw [u8_xor_nat _ _ x.toNat_lt y.toNat_lt,UInt8.toNat_xor]
theorem zFW (x:UInt8) (m:Nat):bits .xor .u8 (x.toNat:Int) (2 ^ m % 256)=((x ^^^ wK (2 ^ m)).toNat:Int):=by
 have h:(2 ^ m % 256:Int)=((wK (2 ^ m)).toNat:Int):=by
  rw [UInt8.toNat_ofNat',Int.natCast_emod,Int.natCast_pow];rfl
 rw [h,zHq]
abbrev Fr:=Int × List UInt8
def lenOf (bs:List UInt8):Nat:=(bs.getD 2 0).toNat * 256+(bs.getD 3 0).toNat
def zPv (bs:List UInt8):Int :=
 if bs.length=0 then 3 else if (bs.getD 0 0).toNat≠83 then 2 else if bs.length<4 then 3 else if 4096<lenOf bs then 7 else if bs.length<lenOf bs+8 then 3 else 0
def zLt (bs:List UInt8):Nat:=if zPv bs=0 then lenOf bs+8 else 0
def zQu (bs:List UInt8):Int:=if zPv bs=0 then (if opens (bs.take (zLt bs)) then 0 else 4) else zPv bs
def getN (bs:List UInt8):Nat:=if zQu bs=0 then zLt bs else 0
def getF (bs:List UInt8):Fr:=if zQu bs=0 then (((bs.getD 1 0).toNat:Int),((bs.take (zLt bs)).take (zLt bs - 4)).drop 4) else (0,[])
def runs:Nat -> List UInt8 -> List Fr × Nat × Int
 | 0,_=>([],0,0)
 | k+1,bs=>if bs.length=0 then ([],0,0) else if zQu bs=0 then let r:=runs k (bs.drop (getN bs));(getF bs :: r.1,getN bs+r.2.1,r.2.2) else ([],0,zQu bs)
def run (bs:List UInt8):List Fr × Nat × Int:=runs bs.length bs
section
variable {P:xJ} {ops:Array zI} {Q:Exit -> lJ -> uA -> Prop} {md:oJ} {S:uA -> Prop} {tl:List Nat}
structure bY (md:oJ) (ops:Array zI) (ls:Array Bool):Prop where
 size:ls.size=ops.size
 closed:∀ j oj,ops[j]?=yA oj -> ls.getD j false=true -> ∀ e ∈ oj.after,sL md e=true -> ls.getD e.on false=true
theorem bY.set {ls:Array Bool} {j:Nat} (h:bY md ops ls) (hj:j ∈ sC md ops ls):bY md ops (ls.setIfInBounds j true):=by
 refine ⟨by simpa using h.size,fun x ox hx hl e he hb => ?_⟩
 obtain ⟨_,o,ho,hall⟩:=pP.1 hj
 by_cases q:j=x
 ·subst q
  rw [ho] at hx
  injection hx with hx
  subst hx
  exact getD_set_true (hall e he hb)
 ·rw [zBc false q] at hl
  exact getD_set_true (h.closed x ox hx hl e he hb)
def zHU (md : oJ) (ops : Array zI) (i : Nat) : Nat -> Nat -> Bool
 | 0,_=>false
 | f + 1, j => match ops[j]? with
  | none=>false
  | some o=>o.after.any fun e=>sL md e && (e.on == i || zHU md ops i f e.on)
theorem zHV {ls:Array Bool} {i:Nat} (inv:bY md ops ls):∀ (f j:Nat),zHU md ops i f j=true -> (∀ o,ops[j]?=yA o -> ∀ e ∈ o.after,sL md e=true -> ls.getD e.on false=true) -> ls.getD i false=true
 | 0,_,h,_=>by cases h
 | f + 1, j, h, hall => by
  unfold zHU at h
  cases ho:ops[j]? with
  | none=>rw [ho] at h;cases h
  | some o =>
   rw [ho] at h
   simp only [Array.any_eq_true,kC,Bool.or_eq_true,beq_iff_eq] at h
   obtain ⟨q,hq,hb,h⟩:=h
   have he:=hall o ho _ (Array.getElem_mem hq) hb
   rcases h with h | h
   ·rw [<- h];exact he
   ·exact zHV inv f _ h fun o2 ho2 e2 he2 hb2=>inv.closed _ o2 ho2 he e2 he2 hb2
theorem zQq {ls:Array Bool} {i j:Nat} (inv:bY md ops ls) (h:zHU md ops i 5 j=true) (hu:ls.getD i true=false):j ∉ sC md ops ls:=fun hj=>by
 obtain ⟨_,o,ho,hall⟩:=pP.1 hj
 have:=zHV inv 5 j h fun o2 ho2=>by rw [ho] at ho2;injection ho2 with ho2;subst ho2;exact hall
 rw [getD_both hu] at this;cases this
def bW (P:xJ) (md:oJ) (ops:Array zI) (Q:Exit -> lJ -> uA -> Prop) (S:uA -> Prop) (tl:List Nat):Nat -> Array Bool -> lJ -> uA -> Prop
 | 0,ls,a,w=>sC md ops ls=[]/\Q .normal a w
 | k+1,ls,a,w=>(sC md ops ls=[] -> Q .normal a w)/\∀ i ∈ sC md ops ls,wpOp P ops Q i (fun a' w'=>(i ∉ tl -> S w -> S w')/\bW P md ops Q S tl k (ls.setIfInBounds i true) a' w') a w
theorem zLa:∀ (k:Nat) (ls:Array Bool) (a:lJ) (w:uA),bW P md ops Q S tl k ls a w -> wpAny P md ops Q k ls a w
 | 0,_,_,_,h=>h
 | k+1,_,_,_,h=>⟨h.1,fun i hi=>wpOp_mono (fun a' w' q=>zLa k _ a' w' q.2) (h.2 i hi)⟩
theorem zJq {i : Nat} {oi : zI} {v : uB} (ht : tl.all (zHU md ops i 5) = true) (him : i ∉ tl) (hi : ops[i]? = yA oi) (hs : tF ops = true) (hQ : ∀ c a w, Q (.panic c) (a.put oi.dst v) w -> Q (.panic c) a w) :
  ∀ (k : Nat) (ls : Array Bool) (a : lJ) (w : uA), bY md ops ls -> (∀ j oj, ops[j]? = yA oj -> j ≠ i -> ls.getD j true = false -> (∀ e ∈ oj.after, sL md e = true -> e.on ≠ i) -> oi.apart ops oj = true) ->
   i ∈ sC md ops ls -> YieldsIf P ops S oi v a -> S w -> bW P md ops Q S tl k (ls.setIfInBounds i true) (a.put oi.dst v) w -> bW P md ops Q S tl (k+1) ls a w:=by
 intro k
 induction k with
 | zero =>
  intro ls a w _ _ hr hy hS H
  refine ⟨fun h=>(by rw [h] at hr;cases hr),fun j hj => ?_⟩
  by_cases e:j=i
  ·subst e;exact hy.wpOp hi hS ⟨fun _ q=>q,H⟩
  ·have:=eO hj e
   rw [H.1] at this
   cases this
 | succ k ih =>
  intro ls a w inv hfree hr hy hS H
  refine ⟨fun h=>(by rw [h] at hr;cases hr),fun j hj => ?_⟩
  by_cases e:j=i
  ·subst e;exact hy.wpOp hi hS ⟨fun _ q=>q,H⟩
  ·have hiu:=(pP.1 hr).1
   have hiu':ls.getD i true=false:=by
    rcases kI i ls.size with q | q
    ·simp [q] at hiu ⊢;exact hiu
    ·have:=(Array.getElem?_eq_some_iff.1 hi).1;rw [inv.size] at q;omega
   have hjm:j ∉ tl:=fun hjt=>zQq inv (List.all_eq_true.1 ht j hjt) hiu' hj
   obtain ⟨hjun,oj,hoj,hall⟩:=pP.1 hj
   have hnot:∀ e ∈ oj.after,sL md e=true -> e.on≠i:=fun e he hb heq=>by
    have h1:=hall e he hb
    rw [heq] at h1
    rcases kI i ls.size with q | q
    ·simp [q] at hiu h1;rw [hiu] at h1;cases h1
    ·simp [cG q] at h1
   have h2:=wpOp_putIf hoj (hfree j oj hoj e hjun hnot) (fun cs b=>jK hs i oi cs b hi) (fun cs b=>jK hs j oj cs b hoj) hQ hy (H.2 j (eO hj e))
   refine wpOp_mono (fun a' w' q=>⟨q.2.1,ih (ls.setIfInBounds j true) a' w' (inv.set hj) (fun x om hm hmi hun hno=>hfree x om hm hmi ?_ hno) (eO hr (Ne.symm e)) q.1 (q.2.1 hjm hS) ?_⟩) h2
   ·by_cases hjx:j=x
    ·subst hjx;exact hjun
    ·rw [zBc true hjx] at hun;exact hun
   ·rw [qQ _ _ e]
    exact q.2.2
theorem zFI {i : Nat} {oi : zI} {v : uB} (hi : ops[i]? = yA oi) (hs : tF ops = true) (hQ : ∀ c a w, Q (.panic c) (a.put oi.dst v) w -> Q (.panic c) a w) :
  ∀ (k : Nat) (ls : Array Bool) (a : lJ) (w : uA), bY md ops ls -> (∀ j oj, ops[j]? = yA oj -> j ≠ i -> ls.getD j true = false -> (∀ e ∈ oj.after, sL md e = true -> e.on ≠ i) -> oi.apart ops oj = true) ->
   i ∈ sC md ops ls -> YieldsIf P ops (fun _=>True) oi v a -> bW P md ops Q S tl k (ls.setIfInBounds i true) (a.put oi.dst v) w -> bW P md ops Q S tl (k+1) ls a w:=by
 intro k
 induction k with
 | zero =>
  intro ls a w _ _ hr hy H
  refine ⟨fun h=>(by rw [h] at hr;cases hr),fun j hj => ?_⟩
  by_cases e:j=i
  ·subst e;exact hy.wpOp hi trivial ⟨fun _ q=>q,H⟩
  ·have:=eO hj e
   rw [H.1] at this
   cases this
 | succ k ih =>
  intro ls a w inv hfree hr hy H
  refine ⟨fun h=>(by rw [h] at hr;cases hr),fun j hj => ?_⟩
  by_cases e:j=i
  ·subst e;exact hy.wpOp hi trivial ⟨fun _ q=>q,H⟩
  ·have hiu:=(pP.1 hr).1
   obtain ⟨hjun,oj,hoj,hall⟩:=pP.1 hj
   have hnot:∀ e ∈ oj.after,sL md e=true -> e.on≠i:=fun e he hb heq=>by
    have h1:=hall e he hb
    rw [heq] at h1
    rcases kI i ls.size with q | q
    ·simp [q] at hiu h1;rw [hiu] at h1;cases h1
    ·simp [cG q] at h1
   have h2:=wpOp_putIf hoj (hfree j oj hoj e hjun hnot) (fun cs b=>jK hs i oi cs b hi) (fun cs b=>jK hs j oj cs b hoj) hQ hy (H.2 j (eO hj e))
   refine wpOp_mono (fun a' w' q=>⟨q.2.1,ih (ls.setIfInBounds j true) a' w' (inv.set hj) (fun x om hm hmi hun hno=>hfree x om hm hmi ?_ hno) (eO hr (Ne.symm e)) q.1 ?_⟩) h2
   ·by_cases hjx:j=x
    ·subst hjx;exact hjun
    ·rw [zBc true hjx] at hun;exact hun
   ·rw [qQ _ _ e]
    exact q.2.2
theorem rT (i:Nat) {oi:zI} {v:uB} {k:Nat} {ls:Array Bool} {a:lJ} {w:uA} (inv:bY md ops ls) (hi:ops[i]?=yA oi) (hb:(tF ops && zK md ops ls i && (sC md ops ls).contains i && !tl.contains i && tl.all (zHU md ops i 5))=true)
  (hQ:∀ c a w,Q (.panic c) (a.put oi.dst v) w -> Q (.panic c) a w) (hw:eD oi (oI ops a.tmps)=true) (hv:∀ w,S w -> (bS a.eval oi).run P w=.ok (.value v) w) (hS:S w) (h:bY md ops (ls.setIfInBounds i true) -> bW P md ops Q S tl k (ls.setIfInBounds i true) (a.put oi.dst v) w):bW P md ops Q S tl (k+1) ls a w:=by
 simp only [kC,Bool.not_eq_true'] at hb
 have hr:i ∈ sC md ops ls:=by simpa using hb.1.1.2
 exact zJq hb.2 (by have:=hb.1.2;simpa using this) hi hb.1.1.1.1 hQ k ls a w inv (pS hi hb.1.1.1.2) hr (.inl ⟨hw,hv⟩) hS (h (inv.set hr))
theorem uT (i:Nat) {oi:zI} {v:uB} {k:Nat} {ls:Array Bool} {a:lJ} {w:uA} (inv:bY md ops ls) (hi:ops[i]?=yA oi) (hb:(tF ops && zK md ops ls i && (sC md ops ls).contains i)=true)
  (hQ:∀ c a w,Q (.panic c) (a.put oi.dst v) w -> Q (.panic c) a w) (hw:eD oi (oI ops a.tmps)=true) (hv:∀ w,(bS a.eval oi).run P w=.ok (.value v) w) (h:bY md ops (ls.setIfInBounds i true) -> bW P md ops Q S tl k (ls.setIfInBounds i true) (a.put oi.dst v) w):bW P md ops Q S tl (k+1) ls a w:=by
 simp only [kC] at hb
 have hr:i ∈ sC md ops ls:=by simpa using hb.2
 exact zFI hi hb.1.1 hQ k ls a w inv (pS hi hb.1.2) hr (.inl ⟨hw,fun w _=>hv w⟩) (h (inv.set hr))
theorem nT (i:Nat) {oi:zI} {k:Nat} {ls:Array Bool} {a:lJ} {w:uA} (inv:bY md ops ls) (hi:ops[i]?=yA oi) (hb:(tF ops && zK md ops ls i && (sC md ops ls).contains i)=true)
  (hQ:∀ c a w,Q (.panic c) (a.put oi.dst vB) w -> Q (.panic c) a w) (hw:eD oi (oI ops a.tmps)=false) (h:bY md ops (ls.setIfInBounds i true) -> bW P md ops Q S tl k (ls.setIfInBounds i true) (a.put oi.dst vB) w):bW P md ops Q S tl (k+1) ls a w:=by
 simp only [kC] at hb
 have hr:i ∈ sC md ops ls:=by simpa using hb.2
 exact zFI hi hb.1.1 hQ k ls a w inv (pS hi hb.1.2) hr (.inr ⟨hw,rfl⟩) (h (inv.set hr))
theorem oT (i:Nat) {o:zI} {k:Nat} {ls:Array Bool} {a:lJ} {w:uA} (inv:bY md ops ls) (hr:sC md ops ls=[i]) (hi:ops[i]?=yA o) (hw:eD o (oI ops a.tmps)=true)
  (h:∀ K:lJ -> uA -> Prop,Hid (∀ a' w',S w' -> (bY md ops (ls.setIfInBounds i true) -> bW P md ops Q S tl k (ls.setIfInBounds i true) a' w') -> K a' w') -> o.wp P a w K Q):bW P md ops Q S tl (k+1) ls a w:=by
 refine ⟨fun h0=>(by rw [hr] at h0;cases h0),fun j hj => ?_⟩
 have hj0:=hj
 rw [hr] at hj
 obtain rfl:=xB.1 hj
 unfold wpOp
 simp only [hi,hw,if_true]
 exact .inl (h _ (fA fun a' w' q r=>⟨fun _ _=>q,r (inv.set hj0)⟩))
theorem bT (i j:Nat) {oi oj:zI} {k:Nat} {ls:Array Bool} {a:lJ} {w:uA} (inv:bY md ops ls) (hr:sC md ops ls=[i,j]) (hi:ops[i]?=yA oi) (hj:ops[j]?=yA oj) (hwi:eD oi (oI ops a.tmps)=true) (hwj:eD oj (oI ops a.tmps)=true)
  (h:∀ K:lJ -> uA -> Prop,Hid (∀ a' w',S w' -> (bY md ops (ls.setIfInBounds i true) -> bW P md ops Q S tl k (ls.setIfInBounds i true) a' w') -> K a' w') -> oi.wp P a w K Q)
  (h2:∀ K:lJ -> uA -> Prop,Hid (∀ a' w',S w' -> (bY md ops (ls.setIfInBounds j true) -> bW P md ops Q S tl k (ls.setIfInBounds j true) a' w') -> K a' w') -> oj.wp P a w K Q):bW P md ops Q S tl (k+1) ls a w:=by
 refine ⟨fun h0=>(by rw [hr] at h0;cases h0),fun x hx => ?_⟩
 have hx0:=hx
 rw [hr] at hx
 rcases List.mem_cons.1 hx with rfl | hx
 ·unfold wpOp
  simp only [hi,hwi,if_true]
  exact .inl (h _ (fA fun a' w' q r=>⟨fun _ _=>q,r (inv.set hx0)⟩))
 ·obtain rfl:=xB.1 hx
  unfold wpOp
  simp only [hj,hwj,if_true]
  exact .inl (h2 _ (fA fun a' w' q r=>⟨fun _ _=>q,r (inv.set hx0)⟩))
theorem tT (i:Nat) {o:zI} {k:Nat} {ls:Array Bool} {a:lJ} {w:uA} (hr:sC md ops ls=[i]) (him:i ∈ tl) (hi:ops[i]?=yA o) (hw:eD o (oI ops a.tmps)=true)
  (h:∀ K:lJ -> uA -> Prop,Hid (∀ a' w',bW P md ops Q S tl k (ls.setIfInBounds i true) a' w' -> K a' w') -> o.wp P a w K Q):bW P md ops Q S tl (k+1) ls a w:=by
 refine ⟨fun h0=>(by rw [hr] at h0;cases h0),fun j hj => ?_⟩
 rw [hr] at hj
 obtain rfl:=xB.1 hj
 unfold wpOp
 simp only [hi,hw,if_true]
 exact .inl (h _ (fA fun a' w' q=>⟨fun x _=>absurd him x,q⟩))
theorem dT {ls:Array Bool} {a:lJ} {w:uA} (hr:sC md ops ls=[]) (h:Q .normal a w):∀ k,bW P md ops Q S tl k ls a w
 | 0=>⟨hr,h⟩
 | _+1=>⟨fun _=>h,by rw [hr];simp⟩
theorem zPi {id:Nat} {a:lJ} {w:uA} (tl:List Nat) (hm:P.follows .mixedOrders=true) (h:bY .any ops (pL ops.size false) -> bW P .any ops Q S tl ops.size (pL ops.size false) a w.drew):(wW id ops true).wp P Q a w :=
 wp_region_any hm (zLa _ _ _ _ (h ⟨by simp,fun j oj _ hl=>(by rw [getD_replicate_false] at hl;cases hl)⟩))
end
section
variable {P:xJ} {ops:Array zI} {Q:Exit -> lJ -> uA -> Prop} {md:oJ} {S:uA -> Prop} {tl:List Nat}
def nV (P:xJ) (md:oJ) (ops:Array zI) (Q:Exit -> lJ -> uA -> Prop) (S:uA -> Prop) (tl:List Nat) (k:Nat) (ls:Array Bool) (a:lJ) (w:uA):Prop:=bY md ops ls -> bW P md ops Q S tl k ls a w
theorem uU (i:Nat) {oi:zI} {v:uB} {k:Nat} {ls:Array Bool} {a:lJ} {w:uA} (h:nV P md ops Q S tl k (ls.setIfInBounds i true) (a.put oi.dst v) w) (hi:ops[i]?=yA oi:=by rfl) (hb:(tF ops && zK md ops ls i && (sC md ops ls).contains i)=true:=by kernel_rfl)
  (hQ:∀ c a w,Q (.panic c) (a.put oi.dst v) w -> Q (.panic c) a w:=by intro _ _ _ h;exact h) (hw:eD oi (oI ops a.tmps)=true:=by kernel_rfl) (hv:∀ w,(bS a.eval oi).run P w=.ok (.value v) w:=by intro w;go_simp;try (with_reducible rfl)):nV P md ops Q S tl (k+1) ls a w:=fun inv=>uT i inv hi hb hQ hw hv h
theorem rU (i:Nat) {oi:zI} {v:uB} {k:Nat} {ls:Array Bool} {a:lJ} {w:uA} (hS:S w) (h:nV P md ops Q S tl k (ls.setIfInBounds i true) (a.put oi.dst v) w) (hi:ops[i]?=yA oi:=by rfl) (hb:(tF ops && zK md ops ls i && (sC md ops ls).contains i && !tl.contains i && tl.all (zHU md ops i 5))=true:=by kernel_rfl)
  (hQ:∀ c a w,Q (.panic c) (a.put oi.dst v) w -> Q (.panic c) a w:=by intro _ _ _ h;exact h) (hw:eD oi (oI ops a.tmps)=true:=by kernel_rfl) (hv:∀ w,S w -> (bS a.eval oi).run P w=.ok (.value v) w:=by intro w h;(try dsimp only at h);go_simp;try (with_reducible rfl)):nV P md ops Q S tl (k+1) ls a w:=fun inv=>rT i inv hi hb hQ hw hv hS h
theorem nU (i:Nat) {oi:zI} {k:Nat} {ls:Array Bool} {a:lJ} {w:uA} (h:nV P md ops Q S tl k (ls.setIfInBounds i true) (a.put oi.dst vB) w) (hi:ops[i]?=yA oi:=by rfl) (hb:(tF ops && zK md ops ls i && (sC md ops ls).contains i)=true:=by kernel_rfl)
  (hQ:∀ c a w,Q (.panic c) (a.put oi.dst vB) w -> Q (.panic c) a w:=by intro _ _ _ h;exact h) (hw:eD oi (oI ops a.tmps)=false:=by kernel_rfl):nV P md ops Q S tl (k+1) ls a w:=fun inv=>nT i inv hi hb hQ hw h
theorem oU (i:Nat) {o:zI} {k:Nat} {ls:Array Bool} {a:lJ} {w:uA} (h:∀ K:lJ -> uA -> Prop,Hid (∀ a' w',S w' -> (S w' -> nV P md ops Q S tl k (ls.setIfInBounds i true) a' w') -> K a' w') -> o.wp P a w K Q) (hr:sC md ops ls=[i]:=by kernel_rfl) (hi:ops[i]?=yA o:=by rfl) (hw:eD o (oI ops a.tmps)=true:=by kernel_rfl):nV P md ops Q S tl (k+1) ls a w:=fun inv =>
 oT i inv hr hi hw fun K hK=>h K (fA fun a' w' hs hr'=>hK.out a' w' hs (hr' hs))
theorem bU (i j:Nat) {oi oj:zI} {k:Nat} {ls:Array Bool} {a:lJ} {w:uA} (h:∀ K:lJ -> uA -> Prop,Hid (∀ a' w',S w' -> (S w' -> nV P md ops Q S tl k (ls.setIfInBounds i true) a' w') -> K a' w') -> oi.wp P a w K Q) (h2:∀ K:lJ -> uA -> Prop,Hid (∀ a' w',S w' -> (S w' -> nV P md ops Q S tl k (ls.setIfInBounds j true) a' w') -> K a' w') -> oj.wp P a w K Q)
  (hr:sC md ops ls=[i,j]:=by kernel_rfl) (hi:ops[i]?=yA oi:=by rfl) (hj:ops[j]?=yA oj:=by rfl) (hwi:eD oi (oI ops a.tmps)=true:=by kernel_rfl) (hwj:eD oj (oI ops a.tmps)=true:=by kernel_rfl):nV P md ops Q S tl (k+1) ls a w:=fun inv =>
 bT i j inv hr hi hj hwi hwj (fun K hK=>h K (fA fun a' w' hs hr'=>hK.out a' w' hs (hr' hs))) (fun K hK=>h2 K (fA fun a' w' hs hr'=>hK.out a' w' hs (hr' hs)))
theorem tU (i:Nat) {o:zI} {k:Nat} {ls:Array Bool} {a:lJ} {w:uA} (h:∀ K:lJ -> uA -> Prop,Hid (∀ a' w',nV P md ops Q S tl k (ls.setIfInBounds i true) a' w' -> K a' w') -> o.wp P a w K Q) (hr:sC md ops ls=[i]:=by kernel_rfl) (him:i ∈ tl:=by decide) (hi:ops[i]?=yA o:=by rfl) (hw:eD o (oI ops a.tmps)=true:=by kernel_rfl):nV P md ops Q S tl (k+1) ls a w:=fun inv =>
 tT i hr him hi hw fun K hK=>h K (fA fun a' w' h'=>hK.out a' w' (h' (inv.set (by rw [hr];exact xB.2 rfl))))
theorem dU {ls:Array Bool} {a:lJ} {w:uA} {k:Nat} (h:Q .normal a w) (hr:sC md ops ls=[]:=by kernel_rfl):nV P md ops Q S tl k ls a w:=fun _=>dT hr h k
theorem zFa {id:Nat} {a:lJ} {w:uA} (tl:List Nat) (h:nV P .any ops Q S tl ops.size (pL ops.size false) a w.drew) (hm:P.follows .mixedOrders=true:=by kernel_rfl):(wW id ops true).wp P Q a w:=zPi tl hm h
end
theorem nP:(∀ (t:Array uB) (df:List Deferred) (d:Nat) (v:uB),Act.put ⟨t,df⟩ (yA d) v=⟨t.setIfInBounds d v,df⟩)/\(∀ (a:lJ) (v:uB),a.put none v=a)/\(∀ (l:List uB) (i:Nat) (v:uB),l.toArray.setIfInBounds i v=(l.set i v).toArray)/\(∀ (l:List uB) (x v:uB),(x :: l).set 0 v=v :: l)/\(∀ (l:List uB) (x v:uB) (i:Nat),(x :: l).set (i+1) v=x :: l.set i v)/\(∀ (l:List zI) (i:Nat) (h:i<l.toArray.size),l.toArray[i]'h=l[i]'(by simpa using h))/\(∀ (x:zI) (l:List zI) (h:0<(x :: l).length),(x :: l)[0]'h=x)/\(∀ (x:zI) (l:List zI) (i:Nat) (h:i+1<(x :: l).length),(x :: l)[i+1]'h=l[i]'(by simpa using h)):=⟨fun _ _ _ _=>rfl,fun _ _=>rfl,fun l i v=>by simp,fun _ _ _=>rfl,fun _ _ _ _=>rfl,fun _ _ _=>rfl,fun _ _ _=>rfl,fun _ _ _ _=>rfl⟩
section
variable {P:xJ} {ops:Array zI} {Q:Exit -> lJ -> uA -> Prop} {md:oJ} {S:uA -> Prop} {tl:List Nat}
theorem iC {id:Nat} {a:lJ} {w:uA} (tl:List Nat) (hS:S w.drew) (h:S w.drew -> nV P .any ops Q S tl ops.size (pL ops.size false) a w.drew) (hm:P.follows .mixedOrders=true:=by kernel_rfl):(wW id ops true).wp P Q a w:=zFa tl (h hS) hm
structure pl (l:List Nat) (p:Prop):Prop where
 out:p
theorem uP {l:List Nat} {i:Nat} {oi:zI} {v:uB} {k:Nat} {ls:Array Bool} {a:lJ} {w:uA} (h:pl l (nV P md ops Q S tl k (ls.setIfInBounds i true) (a.put oi.dst v) w)) (hi:ops[i]?=yA oi:=by rfl) (hb:(tF ops && zK md ops ls i && (sC md ops ls).contains i)=true:=by kernel_rfl)
  (hQ:∀ c a w,Q (.panic c) (a.put oi.dst v) w -> Q (.panic c) a w:=by intro _ _ _ h;exact h) (hw:eD oi (oI ops a.tmps)=true:=by kernel_rfl) (hv:∀ w,(bS a.eval oi).run P w=.ok (.value v) w:=by intro w;go_simp;try (with_reducible rfl)):pl (i :: l) (nV P md ops Q S tl (k+1) ls a w):=⟨uU i h.out hi hb hQ hw hv⟩
theorem rP {l:List Nat} {i:Nat} {oi:zI} {v:uB} {k:Nat} {ls:Array Bool} {a:lJ} {w:uA} (hS:S w) (h:pl l (nV P md ops Q S tl k (ls.setIfInBounds i true) (a.put oi.dst v) w)) (hi:ops[i]?=yA oi:=by rfl) (hb:(tF ops && zK md ops ls i && (sC md ops ls).contains i && !tl.contains i && tl.all (zHU md ops i 5))=true:=by kernel_rfl)
  (hQ:∀ c a w,Q (.panic c) (a.put oi.dst v) w -> Q (.panic c) a w:=by intro _ _ _ h;exact h) (hw:eD oi (oI ops a.tmps)=true:=by kernel_rfl) (hv:∀ w,S w -> (bS a.eval oi).run P w=.ok (.value v) w:=by intro w h;(try dsimp only at h);go_simp;try (with_reducible rfl)):pl ((i+100) :: l) (nV P md ops Q S tl (k+1) ls a w):=⟨rU i hS h.out hi hb hQ hw hv⟩
theorem zCP {l:List Nat} {i:Nat} {oi:zI} {k:Nat} {ls:Array Bool} {a:lJ} {w:uA} (h:pl l (nV P md ops Q S tl k (ls.setIfInBounds i true) (a.put oi.dst vB) w)) (hi:ops[i]?=yA oi:=by rfl) (hb:(tF ops && zK md ops ls i && (sC md ops ls).contains i)=true:=by kernel_rfl)
  (hQ:∀ c a w,Q (.panic c) (a.put oi.dst vB) w -> Q (.panic c) a w:=by intro _ _ _ h;exact h) (hw:eD oi (oI ops a.tmps)=false:=by kernel_rfl):pl ((i+200) :: l) (nV P md ops Q S tl (k+1) ls a w):=⟨nU i h.out hi hb hQ hw⟩
theorem dP {ls:Array Bool} {a:lJ} {w:uA} {k:Nat} (h:Q .normal a w) (hr:sC md ops ls=[]:=by kernel_rfl):pl [300] (nV P md ops Q S tl k ls a w):=⟨dU h hr⟩
theorem eP {p:Prop} (h:p):pl [] p:=⟨h⟩
theorem gU (l:List Nat) {p q:Prop} (k:q) (h:q -> pl l p:=by intro k;(first | refine uP ?_ | refine rP hH ?_ | refine zCP ?_ | skip);(first | refine uP ?_ | refine rP hH ?_ | refine zCP ?_ | skip);(first | refine uP ?_ | refine rP hH ?_ | refine zCP ?_ | skip);(try simp only [nP]);(first | refine uP ?_ | refine rP hH ?_ | refine zCP ?_ | skip);(first | refine uP ?_ | refine rP hH ?_ | refine zCP ?_ | skip);(first | refine uP ?_ | refine rP hH ?_ | refine zCP ?_ | skip);(try simp only [nP]);(first | refine uP ?_ | refine rP hH ?_ | refine zCP ?_ | skip);(first | refine uP ?_ | refine rP hH ?_ | refine zCP ?_ | skip);(first | refine uP ?_ | refine rP hH ?_ | refine zCP ?_ | skip);(try simp only [nP]);(first | refine uP ?_ | refine rP hH ?_ | refine zCP ?_ | skip);(first | refine uP ?_ | refine rP hH ?_ | refine zCP ?_ | skip);(first | refine uP ?_ | refine rP hH ?_ | refine zCP ?_ | skip);(try simp only [nP]);(first | refine uP ?_ | refine rP hH ?_ | refine zCP ?_ | skip);(first | refine uP ?_ | refine rP hH ?_ | refine zCP ?_ | skip);(first | refine uP ?_ | refine rP hH ?_ | refine zCP ?_ | skip);(try simp only [nP]);(first | refine uP ?_ | refine rP hH ?_ | refine zCP ?_ | skip);(first | refine uP ?_ | refine rP hH ?_ | refine zCP ?_ | skip);(first | refine uP ?_ | refine rP hH ?_ | refine zCP ?_ | skip);(try simp only [nP]);(first | refine uP ?_ | refine rP hH ?_ | refine zCP ?_ | skip);(first | refine uP ?_ | refine rP hH ?_ | refine zCP ?_ | skip);(first | refine uP ?_ | refine rP hH ?_ | refine zCP ?_ | skip);(try simp only [nP]);(first | refine uP ?_ | refine rP hH ?_ | refine zCP ?_ | skip);(first | refine uP ?_ | refine rP hH ?_ | refine zCP ?_ | skip);(first | refine uP ?_ | refine rP hH ?_ | refine zCP ?_ | skip);(try simp only [nP]);(first | refine uP ?_ | refine rP hH ?_ | refine zCP ?_ | skip);(first | refine uP ?_ | refine rP hH ?_ | refine zCP ?_ | skip);(first | refine uP ?_ | refine rP hH ?_ | refine zCP ?_ | skip);(try simp only [nP]);(first | refine uP ?_ | refine rP hH ?_ | refine zCP ?_ | skip);(first | refine uP ?_ | refine rP hH ?_ | refine zCP ?_ | skip);(first | refine uP ?_ | refine rP hH ?_ | refine zCP ?_ | skip);(try simp only [nP]);first | exact eP k | (refine dP ?_;(try simp only [nP]);exact k)):p:=(h k).out
end
section
variable {F:Fence} {n:Nat} {P:xJ} {ops:Array zI} {Q:Exit -> lJ -> uA -> Prop} {md:oJ} {S:uA -> Prop}
def zGI (F:Fence) (n:Nat) (P:xJ) (md:oJ) (ops:Array zI) (Q:Exit -> lJ -> uA -> Prop) (S:uA -> Prop) (m k:Nat) (ls:Array Bool) (a:lJ) (w:uA):Prop:=HeadInv md ops m ls -> zAQ F n P md ops Q S m k ls a w
theorem rW {l:List Nat} {i:Nat} {oi:zI} {v:uB} {m k:Nat} {ls:Array Bool} {a:lJ} {w:uA} (hF:∀ f,F.fn f) (hS:S w) (h:pl l (zGI F n P md ops Q S m k (ls.setIfInBounds i true) (a.put oi.dst v) w)) (hi:ops[i]?=yA oi:=by rfl) (hb:(iV ops && tF ops && zK md ops ls i && (sC md ops ls).contains i && decide (i<m) && zGz md ops m)=true:=by kernel_rfl)
  (hQ:∀ c a w,Q (.panic c) (a.put oi.dst v) w -> Q (.panic c) a w:=by intro _ _ _ h;exact h) (hw:eD oi (oI ops a.tmps)=true:=by kernel_rfl) (hv:∀ w,S w -> (bS a.eval oi).run P w=.ok (.value v) w:=by intro w h;(try dsimp only at h);go_simp;try (with_reducible rfl)):pl ((i+100) :: l) (zGI F n P md ops Q S m (k+1) ls a w):=⟨fun inv=>zFH hF inv hi hb hQ (.inl ⟨hw,hv⟩) hS h.out⟩
theorem nW {l:List Nat} {i:Nat} {oi:zI} {m k:Nat} {ls:Array Bool} {a:lJ} {w:uA} (hF:∀ f,F.fn f) (hS:S w) (h:pl l (zGI F n P md ops Q S m k (ls.setIfInBounds i true) (a.put oi.dst vB) w)) (hi:ops[i]?=yA oi:=by rfl) (hb:(iV ops && tF ops && zK md ops ls i && (sC md ops ls).contains i && decide (i<m) && zGz md ops m)=true:=by kernel_rfl)
  (hQ:∀ c a w,Q (.panic c) (a.put oi.dst vB) w -> Q (.panic c) a w:=by intro _ _ _ h;exact h) (hw:eD oi (oI ops a.tmps)=false:=by kernel_rfl):pl ((i+200) :: l) (zGI F n P md ops Q S m (k+1) ls a w):=⟨fun inv=>zFH hF inv hi hb hQ (.inr ⟨hw,rfl⟩) hS h.out⟩
theorem oW (i:Nat) {o:zI} {m k:Nat} {ls:Array Bool} {a:lJ} {w:uA} (h:∀ K:lJ -> uA -> Prop,(∀ a' w',S w' -> (S w' -> zGI F n P md ops Q S m k (ls.setIfInBounds i true) a' w') -> K a' w') -> o.wpIn F n P a w K Q) (hr:sC md ops ls=[i]:=by kernel_rfl) (him:i<m:=by decide) (hi:ops[i]?=yA o:=by rfl) (hw:eD o (oI ops a.tmps)=true:=by kernel_rfl):zGI F n P md ops Q S m (k+1) ls a w:=fun inv =>
 zNA inv hr him hi hw fun K hK=>h K fun a' w' hs r=>hK a' w' hs (r hs)
theorem tR (i:Nat) {o:zI} {m k:Nat} {ls:Array Bool} {a:lJ} {w:uA} (h:∀ K:lJ -> uA -> Prop,(∀ a' w',zAQ F n P md ops Q S m k (ls.setIfInBounds i true) a' w' -> K a' w') -> o.wpIn F n P a w K Q) (hr:sC md ops ls=[i]:=by kernel_rfl) (him:m<=i:=by decide) (hi:ops[i]?=yA o:=by rfl) (hw:eD o (oI ops a.tmps)=true:=by kernel_rfl):zAQ F n P md ops Q S m (k+1) ls a w:=zLA hr him hi hw h
theorem dR {m:Nat} {ls:Array Bool} {a:lJ} {w:uA} {k:Nat} (h:Q .normal a w) (hr:sC md ops ls=[]:=by kernel_rfl):zAQ F n P md ops Q S m k ls a w:=zFG hr h k
theorem dW {m k:Nat} {ls:Array Bool} {a:lJ} {w:uA} (h:Q .normal a w) (hr:sC md ops ls=[]:=by kernel_rfl):pl [300] (zGI F n P md ops Q S m k ls a w):=⟨fun _=>zFG hr h k⟩
theorem xW {m k:Nat} {ls:Array Bool} {a:lJ} {w:uA} (h:zAQ F n P md ops Q S m k ls a w):zGI F n P md ops Q S m k ls a w:=fun _=>h
theorem gW (l:List Nat) {p q:Prop} (k:q) (h:q -> pl l p:=by intro k;(first | refine rW hfn hH ?_ | refine nW hfn hH ?_ | skip);(first | refine rW hfn hH ?_ | refine nW hfn hH ?_ | skip);(first | refine rW hfn hH ?_ | refine nW hfn hH ?_ | skip);(try simp only [nP]);(first | refine rW hfn hH ?_ | refine nW hfn hH ?_ | skip);(first | refine rW hfn hH ?_ | refine nW hfn hH ?_ | skip);(first | refine rW hfn hH ?_ | refine nW hfn hH ?_ | skip);(try simp only [nP]);(first | refine rW hfn hH ?_ | refine nW hfn hH ?_ | skip);(first | refine rW hfn hH ?_ | refine nW hfn hH ?_ | skip);(first | refine rW hfn hH ?_ | refine nW hfn hH ?_ | skip);(try simp only [nP]);(first | refine rW hfn hH ?_ | refine nW hfn hH ?_ | skip);(first | refine rW hfn hH ?_ | refine nW hfn hH ?_ | skip);(first | refine rW hfn hH ?_ | refine nW hfn hH ?_ | skip);(try simp only [nP]);(first | refine rW hfn hH ?_ | refine nW hfn hH ?_ | skip);(first | refine rW hfn hH ?_ | refine nW hfn hH ?_ | skip);(first | refine rW hfn hH ?_ | refine nW hfn hH ?_ | skip);(try simp only [nP]);(first | refine rW hfn hH ?_ | refine nW hfn hH ?_ | skip);(first | refine rW hfn hH ?_ | refine nW hfn hH ?_ | skip);(first | refine rW hfn hH ?_ | refine nW hfn hH ?_ | skip);(try simp only [nP]);(first | refine rW hfn hH ?_ | refine nW hfn hH ?_ | skip);(first | refine rW hfn hH ?_ | refine nW hfn hH ?_ | skip);(first | refine rW hfn hH ?_ | refine nW hfn hH ?_ | skip);(try simp only [nP]);first | exact eP k | (refine dW ?_;(try simp only [nP]);exact k)):p:=(h k).out
theorem jW {id:Nat} {a:lJ} {w:uA} (m:Nat) (hS:S w.drew) (h:S w.drew -> zGI F n P .any ops Q S m ops.size (pL ops.size false) a w.drew) (hm:P.follows .mixedOrders=true:=by kernel_rfl):(wW id ops true).wpIn F n P Q a w:=zPh m hm (h hS)
end
def Lo (w:uA) (A:Option mB) (n:Nat):Prop:=n=0\/n=1/\∃ b o,A=yA ⟨b,o,none⟩/\b<w.heap.size/\w.cell? ⟨b,o,none⟩=yA (.int .i64 1)/\w.cell? ⟨b,o+1,none⟩=yA (.int .i64 0)/\w.cell? ⟨b,o+2,none⟩=yA (.int .i64 0)/\w.cell? ⟨b,o+3,none⟩=yA (.int .i64 0)/\w.cell? ⟨b,o+4,none⟩=yA (.int .i64 0)/\w.cell? ⟨b,o+5,none⟩=yA (.int .i64 0)/\w.cell? ⟨b,o+6,none⟩=yA (.int .i64 0)
theorem Lo.below {w w':uA} {A:Option mB} {n:Nat} (h:Lo w A n) (hb:Below w.heap.size w w'):Lo w' A n:=by
 rcases h with h | ⟨h,b,o,hA,hl,c⟩
 ·exact .inl h
 ·refine .inr ⟨h,b,o,hA,Nat.lt_of_lt_of_le hl hb.size,?_⟩
  have e:=fun x=>(bcell hb).1 b x hl
  rw [e,e,e,e,e,e,e]
  exact c
abbrev zLo (A:Option mB) (n c:Nat):uB:=.agg #[.int .i64 0,.int .i64 0,.slice A n c]
theorem zQL (A:Option mB) (n c:Nat) (f:Int) (w:uA) (h:Lo w A n) (hf:f=0) :
  iA prog 228 #[.slice A n c,f] w fun e w'=>e=.returned (.bool true)/\Below w.heap.size w w':=by
 subst hf
 go_enter func228,ntmps228
 go_wp2
 go_loopw [1,9] (fun v i wr=>∃ k g:Nat,k<=n/\g<=1/\i=.int .i64 k/\v=.int .i64 g/\Below w.heap.size w wr) (fun _ i _=>n - (intOf i).toNat)
 case atStart=>exact ⟨0,0,by omega,by omega,rfl,rfl,Below.refl _ _⟩
 case round =>
  obtain ⟨k,g,hk,hg,rfl,rfl,hb⟩:=hrel
  by_cases hlt:k<n
  ·rcases h.below hb with rfl | ⟨rfl,b,o,rfl,hl,c0,c1,c2,c3,c4,c5,c6⟩
   ·omega
   obtain rfl:k=0:=by omega
   have hg1:¬ (1:Int)<(g:Int):=by omega
   by_cases hg2:(1:Int)<=(g:Int)
   all_goals go_wp2
   all_goals go_roundw
   all_goals first | exact ⟨1,1,by omega,by omega,rfl,rfl,hb.alloc hb.size _⟩ | simp [intOf]
  ·have hk2:¬ (k:Int)<(n:Int):=by omega
   go_wp2
   go_ret
   exact ⟨rfl,hb⟩
theorem Lo.le {w:uA} {A:Option mB} {n:Nat} (h:Lo w A n):n<=1:=by rcases h with h | ⟨h,_⟩ <;> omega
theorem zRF (A:Option mB) (n c:Nat) (w:uA) (h:Lo w A n) :
  iA prog 151 #[zLo A n c] w fun e w'=>e=.returned (.bool true)/\Below w.heap.size w w':=by
 have HR:=fA (fun W (hb:Below w.heap.size w W)=>zQL A n c 0 W (h.below hb) rfl)
 have hn:=h.le
 have h6:(n:Int)<=64:=by omega
 clear h
 go_enter func151,ntmps151
 go_wp2_with (go_at_call 228;refine (HR.out _ (wA _ _)).mono ?_;rintro e w1 ⟨rfl,hb1⟩)
 go_ret
 exact ⟨rfl,oS hb1⟩
theorem zRb (A:Option mB) (n c:Nat) (w:uA) (h:Lo w A n) :
  iA prog 156 #[zLo A n c] w fun e w'=>e=.returned (zLo A n c)/\Below w.heap.size w w':=by
 have HM:=fA (fun W (hb:Below w.heap.size w W)=>zRF A n c W (h.below hb))
 clear h
 go_enter func156,ntmps156
 go_wp2_with (go_at_call 151;refine (HM.out _ (yI _ _ _)).mono ?_;rintro e w1 ⟨rfl,hb1⟩;have hF:=kA hb1 (bG _ _ _);have hG:=kA hb1 (sF _ _ _);obtain ⟨hc0,hc1,hc2,_,_,_,hlt⟩:=vH hF;obtain ⟨gc0,gc1,gc2,gf0,gf1,gf2,hlt2⟩:=vH hG)
 obtain ⟨k0,k1,k2,_⟩:=vH (xI hG (.int .i64 0) (.int .i64 0) (.slice A n c))
 refine bodyPost_ret (v:=zLo A n c) (by simp [results,results156,go_sem,k0,k1,k2]) rfl ?_
 exact ⟨rfl,rH (zGG hb1) (by omega) _ _ _⟩
theorem zRi (A:Option mB) (n c:Nat) (w:uA) (h:Lo w A n) :
  iA prog 157 #[zLo A n c,(n:Int)] w fun e w'=>e=.returned (.tuple #[(n:Int),.bool true])/\Below w.heap.size w w':=by
 have HM:=fA (fun W (hb:Below w.heap.size w W)=>zRb A n c W (h.below hb))
 rcases h with rfl | ⟨rfl,b,o,rfl,hl,c0,_⟩
 ·go_enter func157,ntmps157
  go_wp2_with (go_at_call 156;refine (HM.out _ (wA _ _)).mono ?_;rintro e w1 ⟨rfl,hb1⟩;have hF:=kA hb1 (rB _ _);obtain ⟨hc0,hc1,hc2,hf0,hf1,hf2,hlt⟩:=vH hF)
  go_ret2
  exact ⟨rfl,rH (oS hb1) (mA _) _ _ _⟩
 ·have HC:=fA c0
  have hne:¬ b=w.heap.size:=by omega
  clear c0
  go_enter func157,ntmps157
  go_wp2_with (go_at_call 156;refine (HM.out _ (wA _ _)).mono ?_;rintro e w1 ⟨rfl,hb1⟩;have hF:=kA hb1 (rB _ _);obtain ⟨hc0,hc1,hc2,hf0,hf1,hf2,hlt⟩:=vH hF;have d0:=((bcell (oS hb1)).1 b o hl).trans HC.out)
  go_ret2
  exact ⟨rfl,rH (oS hb1) (mA _) _ _ _⟩
theorem zOu (A:Option mB) (n c:Nat) (w:uA) (h:Lo w A n) :
  iA prog 86 #[zLo A n c] w fun e w'=>e=.returned (.tuple #[(n:Int),(n:Int)])/\Below w.heap.size w w':=by
 have HM:=fA (fun W (hb:Below w.heap.size w W)=>zRb A n c W (h.below hb))
 have HT:=fA (fun W (hb:Below w.heap.size w W)=>zRi A n c W (h.below hb))
 have hn:=h.le
 have hw1:IntKind.i64.wrap (n:Int)=n:=oH (by omega) (by omega)
 have hw2:wrap64 (n:Int)=n:=zBI (by omega) (by omega)
 clear h
 go_enter func86,ntmps86
 go_wp2_with (first
  | (go_at_call 156;refine (HM.out _ (wA _ _)).mono ?_;rintro e w1 ⟨rfl,hb1⟩;have hF:=kA hb1 (rB _ _);obtain ⟨hc0,hc1,hc2,hf0,hf1,hf2,hlt⟩:=vH hF;have hB:=rH (oS hb1) (mA _) (.int .i64 0) (.int .i64 0) (.slice A n c))
  | (go_at_call 157;refine (HT.out _ hB).mono ?_;rintro e w2 ⟨rfl,hb2⟩))
 go_ret2
 exact ⟨rfl,hB.trans (hb2.mono hB.size)⟩
theorem zRj (t v:Int) (w:uA) (h:t=v/\(t=0\/t=1)) :
  iA prog 150 #[.agg #[t,v]] w fun e w'=>e=.returned (.bool true)/\Below w.heap.size w w':=by
 have HV:Hid (∀ W,iA prog 227 #[.int .i64 1] W fun e w'=>e=.returned (.bool true)/\w'=W):=fA fun W=>by
  go_enter func227,ntmps227
  go_wp2
  go_ret
  exact ⟨rfl,rfl⟩
 obtain ⟨rfl,rfl | rfl⟩:=h
 all_goals go_enter func150,ntmps150
 all_goals go_wp2_with (go_at_call 227;refine (HV.out _).mono ?_;rintro e wx ⟨rfl,hx⟩;subst hx)
 all_goals go_ret
 all_goals exact ⟨rfl,wA _ _⟩
abbrev mO (t v:Int) (L:Option mB) (n c:Nat) (role s:Int) (Q O:Nat):Obj:=.cells #[.int .i64 1,t,v,.int .i64 0,.int .i64 0,.slice L n c,role,s,.map (yA Q),.slice (yA ⟨O,0,none⟩) 1 1] 156
theorem zLf (w:uA):iA prog 149 #[.slice none 0 0] w fun e w'=>e=.returned (.slice none 0 0)/\w'=w:=by
 have hN:(binOp .eql 43 (.slice none 0 0) (.slice none 0 0)).run prog w=.ok (.bool true) w:=by kernel_rfl
 go_enter func149,ntmps149
 go_wp2
 go_ret
 exact ⟨rfl,rfl⟩
theorem zNX:oQ prog 154 232 (.agg #[.int .i64 0,.int .i64 0]) 2 16:=⟨underlying154,by kernel_rfl,rfl,by omega⟩
theorem zOA (W:uA):(Instr.makeSlice 154 (.int .i64 1) (.int .i64 1)).run prog W=.ok (.slice (yA ⟨W.heap.size,0,none⟩) 1 1) (W.alloc (.cells #[.int .i64 0,.int .i64 0] 232)):=by
 obtain ⟨i,hi,hz,hsize,hby⟩:=info_parts zNX.info
 have:=run_make (P:=prog) W 154 232 i _ zNX.under hi hz .i64 .i64 1 1 (by omega) (by omega) (by rw [hby];decide) (by omega)
 rw [hsize,show madeCells (Value.agg #[.int .i64 0,.int .i64 0]).cells (Int.toNat 1 * 2)=#[.int .i64 0,.int .i64 0] by kernel_rfl] at this
 exact this
theorem zKY (w:uA) (a b c:Obj):(((w.alloc a).alloc b).alloc c).heap[w.heap.size]?=yA a/\(((w.alloc a).alloc b).alloc c).heap[w.heap.size+1]?=yA b/\(((w.alloc a).alloc b).alloc c).heap[w.heap.size+1+1]?=yA c/\Below w.heap.size w (((w.alloc a).alloc b).alloc c):=by
 have h:∀ (v:uA) (o:Obj),(v.alloc o).heap.size=v.heap.size+1:=fun v o=>by simp
 have h1:=rB (w.alloc a) b
 have h2:=rB ((w.alloc a).alloc b) c
 rw [h] at h1
 rw [h,h] at h2
 exact ⟨kA (wA _ _) (kA (wA _ _) (rB w a)),kA (wA _ _) h1,h2,((wA w a).alloc (by rw [h];omega) b).alloc (by rw [h,h];omega) c⟩
theorem rnew1 (w:uA):iA prog 79 #[.int .i64 1,.int .i64 1,.agg #[.int .i64 0,.int .i64 0],zLo none 0 0] w fun e w'=>∃ M Q O,e=.returned (.tuple #[(M,0),.int .i64 0])/\w'.heap[M]?=yA (mO 0 0 none 0 0 0 0 Q O)/\uH w' Q 0 []/\w'.heap[O]?=yA (.cells #[.int .i64 0,.int .i64 0] 232)/\w.heap.size<=M/\w.heap.size<=Q/\w.heap.size<=O/\M≠Q/\M≠O/\Q≠O/\Below w.heap.size w w':=by
 have HL:=fA (fun W=>zOu none 0 0 W (.inl rfl))
 have HV:=fA (fun W=>zRj 0 0 W ⟨rfl,.inl rfl⟩)
 have HM:=fA (fun W=>zRF none 0 0 W (.inl rfl))
 have hal:=yI w (.cells #[.int .i64 0,.int .i64 0] 142) (.cells #[.int .i64 0,.int .i64 0,.slice none 0 0] 148)
 have g0:=bG w (.cells #[.int .i64 0,.int .i64 0] 142) (.cells #[.int .i64 0,.int .i64 0,.slice none 0 0] 148)
 have g1:=sF w (.cells #[.int .i64 0,.int .i64 0] 142) (.cells #[.int .i64 0,.int .i64 0,.slice none 0 0] 148)
 obtain ⟨hc0,hc1,hf0,hf1,hlt⟩:=nJ g0
 obtain ⟨lc0,lc1,lc2,lf0,lf1,lf2,llt⟩:=vH g1
 have hmm:=@run_makeMap prog
 have hmk:=zOA
 go_enter func79,ntmps79
 go_wp2_with (first
  | (go_at_call 86;refine (HL.out _).mono ?_;rintro e w1 ⟨rfl,hb1⟩;have hw1:=hal.trans (hb1.mono hal.size);have G0:=kA hb1 g0;have G1:=kA hb1 g1;obtain ⟨xc0,xc1,xf0,xf1,xlt⟩:=nJ G0;obtain ⟨yc0,yc1,yc2,yf0,yf1,yf2,ylt⟩:=vH G1)
  | (go_at_call 150;refine (HV.out _).mono ?_;rintro e w2 ⟨rfl,hb2⟩;have hw2:=hw1.trans (hb2.mono hw1.size);have K0:=kA hb2 G0;have K1:=kA hb2 G1;obtain ⟨kc0,kc1,kf0,kf1,klt⟩:=nJ K0;obtain ⟨jc0,jc1,jc2,jf0,jf1,jf2,jlt⟩:=vH K1)
  | (go_at_call 151;refine (HM.out _).mono ?_;rintro e w3 ⟨rfl,hb3⟩;have hw3:=hw2.trans (hb3.mono hw2.size);have N0:=kA hb3 K0;have N1:=kA hb3 K1;obtain ⟨nc0,nc1,nf0,nf1,nlt⟩:=nJ N0;obtain ⟨mc0,mc1,mc2,mf0,mf1,mf2,mlt⟩:=vH N1)
  | (go_at_call 149;refine (zLf _).mono ?_;rintro e wx ⟨rfl,hx⟩;subst hx))
 have P2:=zD (i:=2) N1 (.slice none 0 0)
 have P3:=pC (i:=2) N0 (G:=w.heap.size+1) (by omega) (.slice none 0 0)
 have hw5:=hw3.setCell (p:=⟨w.heap.size+1,2,none⟩) (Nat.le_succ _) (.slice none 0 0)
 clear hc0 hc1 hf0 hf1 hlt lc0 lc1 lc2 lf0 lf1 lf2 llt xc0 xc1 xf0 xf1 xlt yc0 yc1 yc2 yf0 yf1 yf2 ylt kc0 kc1 kf0 kf1 klt jc0 jc1 jc2 jf0 jf1 jf2 jlt nc0 nc1 nf0 nf1 nlt mc0 mc1 mc2 mf0 mf1 mf2 mlt
 generalize wx.setCell ⟨w.heap.size+1,2,none⟩ (.slice none 0 0)=W5 at *
 obtain ⟨pc0,pc1,pf0,pf1,plt⟩:=nJ P3
 obtain ⟨qc0,qc1,qc2,qf0,qf1,qf2,qlt⟩:=vH P2
 have hs5:=hw5.size
 go_cut [8,9] (fun p q wx=>∃ M Q O,p=.pointer (yA ⟨M,0,none⟩)/\q=.int .i64 0/\wx.heap[M]?=yA (mO 0 0 none 0 0 0 0 Q O)/\uH wx Q 0 []/\wx.heap[O]?=yA (.cells #[.int .i64 0,.int .i64 0] 232)/\w.heap.size<=M/\w.heap.size<=Q/\w.heap.size<=O/\M≠Q/\M≠O/\Q≠O/\Below w.heap.size w wx)
 case rest =>
  obtain ⟨M,Q,O,rfl,rfl,r⟩:=hcut
  go_wp2
  go_ret2
  exact ⟨M,Q,O,rfl,r⟩
 case first =>
  go_region_held3 (fun W=>W.cell? ⟨w.heap.size,0,none⟩=yA (.int .i64 0)/\W.cell? ⟨w.heap.size,1,none⟩=yA (.int .i64 0)/\W.cell? ⟨w.heap.size+1,0,none⟩=yA (.int .i64 0)/\W.cell? ⟨w.heap.size+1,1,none⟩=yA (.int .i64 0)/\W.cell? ⟨w.heap.size+1,2,none⟩=yA (.slice none 0 0)) (first | with_reducible exact ⟨pc0,pc1,qc0,qc1,qc2⟩ | exact ⟨jA (zF (zF (zF P3 _) _) _) 0,jA (zF (zF (zF P3 _) _) _) 1,jA (zF (zF (zF P2 _) _) _) 0,jA (zF (zF (zF P2 _) _) _) 1,jA (zF (zF (zF P2 _) _) _) 2⟩ | go_keep) (fail)
  all_goals (go_wp2_with fail;go_meet)
  ·obtain ⟨b1,b2,b3,hb⟩:=zKY W5 (.map #[] 0) (.cells #[.int .i64 0,.int .i64 0] 232) (mO 0 0 none 0 0 0 0 W5.heap.size (W5.heap.size+1))
   exact ⟨_,_,_,rfl,rfl,b3,((uH.made W5).alloc _).alloc _,b2,by omega,by omega,by omega,by omega,by omega,by omega,(hw5.trans (hb.mono hs5)).drew⟩
  ·obtain ⟨b1,b2,b3,hb⟩:=zKY W5 (.cells #[.int .i64 0,.int .i64 0] 232) (.map #[] 0) (mO 0 0 none 0 0 0 0 (W5.heap.size+1) W5.heap.size)
   have hm:=(uH.made (W5.alloc (.cells #[.int .i64 0,.int .i64 0] 232))).alloc (mO 0 0 none 0 0 0 0 (W5.heap.size+1) W5.heap.size)
   rw [World.size_alloc] at hm
   exact ⟨_,_,_,rfl,rfl,b3,hm,b1,by omega,by omega,by omega,by omega,by omega,by omega,(hw5.trans (hb.mono hs5)).drew⟩
theorem zLE {w:uA} {F:Nat} {x y z u v:uB} {t:TypeId} (h:w.heap[F]?=yA (.cells #[x,y,z,u,v] t)) :
  w.cell? ⟨F,0,none⟩=yA x/\w.cell? ⟨F,1,none⟩=yA y/\w.cell? ⟨F,2,none⟩=yA z/\w.cell? ⟨F,3,none⟩=yA u/\w.cell? ⟨F,4,none⟩=yA v/\w.frozen? ⟨F,0,none⟩=false/\w.frozen? ⟨F,1,none⟩=false/\w.frozen? ⟨F,2,none⟩=false/\w.frozen? ⟨F,3,none⟩=false/\w.frozen? ⟨F,4,none⟩=false/\F<w.heap.size :=
 ⟨jA h 0,jA h 1,jA h 2,jA h 3,jA h 4,qB h 0,qB h 1,qB h 2,qB h 3,qB h 4,eB h⟩
abbrev vO (d:Option mB) (n c:Nat) (s t v:Int) (L:Option mB) (k lc:Nat):Obj:=.cells #[.slice d n c,s,t,v,.slice L k lc] 146
abbrev gO (A:Nat):Obj:=.cells #[.slice (yA ⟨A,0,none⟩) 1 1,.slice none 0 0] 78
theorem zRT (V:Nat) (w:uA) (g:w.heap[V]?=yA (vO none 0 0 0 0 0 none 0 0)):iA prog 78 #[(V,0)] w fun e w'=>e=.returned (.tuple #[.agg #[.int .i64 0,.int .i64 0],zLo none 0 0])/\Below w.heap.size w w':=by
 obtain ⟨c0,c1,c2,c3,c4,f0,f1,f2,f3,f4,hlt⟩:=zLE g
 have hw0:=yI w (.cells #[.int .i64 0,.int .i64 0] 142) (.cells #[.int .i64 0,.int .i64 0,.slice none 0 0] 148)
 have g0:=bG w (.cells #[.int .i64 0,.int .i64 0] 142) (.cells #[.int .i64 0,.int .i64 0,.slice none 0 0] 148)
 have g1:=sF w (.cells #[.int .i64 0,.int .i64 0] 142) (.cells #[.int .i64 0,.int .i64 0,.slice none 0 0] 148)
 have gV:=kA hw0 g
 go_enter func78,ntmps78
 go_wp2
 clear c0 c1 c2 c3 c4 f0 f1 f2 f3 f4 hlt
 have hV2:V<w.heap.size:=eB g
 generalize (w.alloc (.cells #[.int .i64 0,.int .i64 0] 142)).alloc (.cells #[.int .i64 0,.int .i64 0,.slice none 0 0] 148)=W0 at *
 obtain ⟨v0,v1,v2,v3,v4,_,_,_,_,_,hlt⟩:=zLE gV
 obtain ⟨b0,b1,bf0,bf1,blt⟩:=nJ g0
 obtain ⟨l0,l1,l2,lf0,lf1,lf2,llt⟩:=vH g1
 have hn0:V≠w.heap.size:=by omega
 have hn1:V≠w.heap.size+1:=by omega
 have y1:=zIQ gV hn0 (.int .i64 0) (.int .i64 0)
 obtain ⟨_,_,k2,k3,k4,_⟩:=zLE (iB y1)
 obtain ⟨_,_,p2,p3,p4,_⟩:=zLE (iB (kT gV hn1 (.int .i64 0) (.int .i64 0) (.slice none 0 0)))
 obtain ⟨_,_,q2,q3,q4,_⟩:=zLE (iB (kT y1 hn1 (.int .i64 0) (.int .i64 0) (.slice none 0 0)))
 go_region_held3 (fun W=>W.cell? ⟨V,2,none⟩=yA (.int .i64 0)/\W.cell? ⟨V,3,none⟩=yA (.int .i64 0)/\W.cell? ⟨V,4,none⟩=yA (.slice none 0 0)) (first | with_reducible exact ⟨v2,v3,v4⟩ | with_reducible exact ⟨k2,k3,k4⟩ | with_reducible exact ⟨p2,p3,p4⟩ | with_reducible exact ⟨q2,q3,q4⟩ | go_keep) ((go_at_call 149;refine (zLf _).mono ?_;rintro e wx ⟨rfl,hx⟩;subst hx))
 all_goals go_wp2
 all_goals (
  obtain ⟨q0,q1,_⟩:=nJ (kT (zPr g0 (.int .i64 0) (.int .i64 0)) (show w.heap.size≠w.heap.size+1 by omega) (.int .i64 0) (.int .i64 0) (.slice none 0 0))
  obtain ⟨r0,r1,r2,_⟩:=vH (xI (zIQ g1 (show w.heap.size+1≠w.heap.size by omega) (.int .i64 0) (.int .i64 0)) (.int .i64 0) (.int .i64 0) (.slice none 0 0))
  refine bodyPost_ret (v:=.tuple #[.agg #[.int .i64 0,.int .i64 0],zLo none 0 0]) (by simp [results,results78,go_sem,q0,q1,r0,r1,r2]) rfl ?_
  exact ⟨rfl,(rH (zKO hw0 (mA _) _ _) (by omega) _ _ _).drew⟩)
theorem zOg (G A:Nat) (s:uB) (w:uA) (h:w.heap[G]?=yA (.cells #[.slice (yA ⟨A,0,none⟩) 1 1,s] 78)):iA prog 37 #[(G,0),.int .i64 1] w fun e w'=>e=.returned (.pointer (yA ⟨A,0,none⟩))/\w'=w:=by
 obtain ⟨c0,c1,f0,f1,hlt⟩:=nJ h
 go_enter func37,ntmps37
 go_wp2
 go_ret
 exact ⟨rfl,rfl⟩
theorem zRy (G A V:Nat) (x:uB) (w:uA) (h:w.heap[G]?=yA (gO A)) (hA:w.heap[A]?=yA (.cells #[x,(V,0)] 83)) (hV:w.heap[V]?=yA (vO none 0 0 0 0 0 none 0 0)) :
  iA prog 34 #[(G,0),.int .i64 1] w fun e w'=>e=.returned (.tuple #[])/\∃ M Q O w3,w'=w3.setCell ⟨A,0,none⟩ (.pointer (yA ⟨M,0,none⟩))/\Below w.heap.size w w3/\w3.heap[M]?=yA (mO 0 0 none 0 0 0 0 Q O)/\uH w3 Q 0 []/\w3.heap[O]?=yA (.cells #[.int .i64 0,.int .i64 0] 232)/\w.heap.size<=M/\w.heap.size<=Q/\w.heap.size<=O/\M≠Q/\M≠O/\Q≠O:=by
 have HOF:=fA (zOg G A _ w h)
 have HLD:=fA (zRT V w hV)
 obtain ⟨c0,c1,f0,f1,hlt⟩:=nJ hA
 obtain ⟨g0,g1,gf0,gf1,glt⟩:=nJ h
 go_enter func34,ntmps34
 go_upto_region 2 with (first
  | (go_at_call 37;refine HOF.out.mono ?_;rintro e wx ⟨rfl,hwx⟩;subst hwx)
  | (go_at_call 78;refine HLD.out.mono ?_;rintro e w1 ⟨rfl,hb1⟩))
 have hal:=yI w1 (.cells #[.int .i64 0,.int .i64 0] 142) (.cells #[.int .i64 0,.int .i64 0,.slice none 0 0] 148)
 have b0:=bG w1 (.cells #[.int .i64 0,.int .i64 0] 142) (.cells #[.int .i64 0,.int .i64 0,.slice none 0 0] 148)
 have b1:=sF w1 (.cells #[.int .i64 0,.int .i64 0] 142) (.cells #[.int .i64 0,.int .i64 0,.slice none 0 0] 148)
 have hb2:=hb1.trans (hal.mono hb1.size)
 have rowW:=kA hb2 hA
 have gW:=kA hb2 h
 generalize (w1.alloc (.cells #[.int .i64 0,.int .i64 0] 142)).alloc (.cells #[.int .i64 0,.int .i64 0,.slice none 0 0] 148)=W2 at *
 clear c0 c1 f0 f1 hlt g0 g1 gf0 gf1 glt h hA hV hal
 generalize w1.heap.size=F at *
 obtain ⟨bc0,bc1,bf0,bf1,blt⟩:=nJ b0
 obtain ⟨lc0,lc1,lc2,lf0,lf1,lf2,llt⟩:=vH b1
 obtain ⟨gc0,gc1,gf0,gf1,glt⟩:=nJ gW
 obtain ⟨rc0,rc1,rf0,rf1,rlt⟩:=nJ rowW
 go_region_law (first
  | (go_simp;go_at_call 79;refine (rnew1 _).mono ?_;rintro e w3 ⟨M,Q,O,rfl,r1,r2,r3,r4,r5,r6,r7,r8,r9,hb3⟩;have row3:=kA hb3 (iB rowW);have rf3:=qB row3 0;have rl3:=eB row3;have rc3:=jA row3 0;(try go_simp)))
 all_goals (
  refine bodyPost_end (results_none rfl _ _ _) rfl ?_
  have hs:=hb2.size
  exact ⟨rfl,M,Q,O,w3,rfl,hb2.drew.trans (hb3.mono hs),r1,r2,r3,pA hs r4,pA hs r5,pA hs r6,r7,r8,r9⟩)
end Go.Proofs.YtogbpifcmhafkaaGreat
