/-
 Part PY of the proof.
-/
import Derived.Test.YtogbpifcmhafkaaGreatPT
import Derived.Test.YtogbpifcmhafkaaGreatPX
open Bool renaming and_eq_true->kC
open Go renaming Addr->mB,Calls->iA,Value->uB,World->uA
open Go.Lib renaming hid->fA
open Go.Lit renaming int->cE
open Go.RowKit renaming Hid->jC
open Go.Value renaming slice->zE
open Go.World renaming ownsRow_nil->nB
open List renaming eraseIdx_sublist->zAD,forall_mem_cons->zAG,getD_eq_getElem?_getD->pB,getElem?_eq_getElem->rA,getElem?_map->zJ,getElem_mem->wC,length_filter_le->eC,length_map->mC,map_append->gE,mem_filter->vI,mem_map->jJ,mem_or_eq_of_mem_set->rJ,mem_singleton->xB,pairwise_cons->fV,pairwise_iff_getElem->uW,singleton_append->qO
open Nat renaming le_refl->mA,le_trans->pA,lt_of_lt_of_le->tA,lt_or_ge->kI,zero_le->vC
open Option renaming getD_some->yD,some->yA
namespace Go.Proofs.YtogbpifcmhafkaaGreat
open Go.RowKit Tryz
open Go.Lib(hid)
set_option linter.unusedVariables false
set_option linter.unusedSimpArgs false
set_option maxRecDepth 100000
set_option maxHeartbeats 16000000
structure cJ (P:Nat -> Prop) (w w':uA):Prop where
 os:w'.os=w.os
 tape:w'.tape=w.tape
 output:w'.output=w.output
 size:w.heap.size<=w'.heap.size
 block:∀ k,k<w.heap.size -> ¬ P k -> w'.heap[k]?=w.heap[k]?
theorem cJ.list {P:Nat -> Prop} {w w':uA} (h:cJ P w w'):∃ S:List Nat,(∀ x ∈ S,P x/\x<w.heap.size)/\fD S w w':=by
 classical
 refine ⟨(List.range w.heap.size).filter (fun x=>decide (P x)),fun x hx => ?_,h.os,h.tape,h.output,h.size,fun k hk hne=>h.block k hk fun hp=>hne ?_⟩
 ·rw [vI,List.mem_range] at hx
  exact ⟨of_decide_eq_true hx.2,hx.1⟩
 ·rw [vI,List.mem_range]
  exact ⟨hk,decide_eq_true hp⟩
theorem cJ.of {P:Nat -> Prop} {S:List Nat} {w w':uA} (h:fD S w w') (hS:∀ x ∈ S,P x\/w.heap.size<=x):cJ P w w':=⟨h.os,h.tape,h.output,h.size,fun k hk hp=>h.block k hk fun hm=>by rcases hS k hm with q | q;exact hp q;omega⟩
theorem cJ.below {P:Nat -> Prop} {w w':uA} (h:Below w.heap.size w w'):cJ P w w':=cJ.of (fD.of_below h:fD [] w w') (fun x hx=>by cases hx)
theorem cJ.refl (P:Nat -> Prop) (w:uA):cJ P w w:=cJ.of (fD.refl [] w) (fun x hx=>by cases hx)
theorem cJ.trans {P T:Nat -> Prop} {a b c:uA} (h:cJ P a b) (k:cJ T b c) (hT:∀ x,T x -> P x\/a.heap.size<=x):cJ P a c :=
 ⟨k.os.trans h.os,k.tape.trans h.tape,k.output.trans h.output,pA h.size k.size,fun i hi hne=>(k.block i (tA hi h.size) fun hc=>by rcases hT i hc with h1 | h1;exact hne h1;omega).trans (h.block i hi hne)⟩
theorem cJ.mono {P T:Nat -> Prop} {a b:uA} (h:cJ P a b) (hT:∀ x,P x -> T x\/a.heap.size<=x):cJ T a b :=
 ⟨h.os,h.tape,h.output,h.size,fun i hi hne=>h.block i hi fun hc=>by rcases hT i hc with h1 | h1;exact hne h1;omega⟩
theorem cJ.keep {P:Nat -> Prop} {F:Nat} {w w':uA} {o:Obj} (h:cJ P w w') (hF:w.heap[F]?=yA o) (hne:¬ P F):w'.heap[F]?=yA o:=by rw [h.block F (eB hF) hne];exact hF
structure Sv where
 room:Int
 l:List Rp
 f:Int -> Bool -> List UInt8
structure SL where
 M:Nat
 n:Nat
 lA:Option mB
 lc:Nat
 g:Int -> Bool -> Option mB × Nat
def SL.own (s:Nat) (L:SL) (x:Nat):Prop:=x=s\/x=L.M\/∃ k b,x ∈ zB (L.g k b).1
abbrev zQS (room:Int) (l:uB) (M:Nat):Obj:=.cells #[room,l,.map (yA M)] 137
structure qS (R:Nat -> Prop) (w:uA) (s:Nat) (L:SL) (v:Sv):Prop where
 blk:w.heap[s]?=yA (zQS v.room (.slice L.lA v.l.length L.lc) L.M)
 rl:vS (fun x=>R x/\¬ L.own s x) fJ w L.lA L.lc v.l
 mp:xN w L.M L.n (fun k b=>.slice (L.g k b).1 (v.f k b).length (L.g k b).2)
 rows:∀ k b,w.ownsRow 0 5 1 (.slice (L.g k b).1 (v.f k b).length (L.g k b).2) (v.f k b).length ((v.f k b).map pI)
 dis:∀ k b k' b' x,x ∈ zB (L.g k b).1 -> x ∈ zB (L.g k' b').1 -> k=k'/\b=b'
 sm:s≠L.M
 sr:∀ k b x,x ∈ zB (L.g k b).1 -> x≠s/\x≠L.M
 lt:∀ x ∈ zB L.lA,x<w.heap.size
structure bH (v:Sv):Prop where
 room:v.room<=16
 l:v.l.length<=16
 ids:∀ x ∈ v.l,(cE .i64 x.1).wf=true
 f:∀ k b,(v.f k b).length<=64
structure qI (R:Nat -> Prop) (s:Nat) (L L':SL) (v':Sv) (w w':uA):Prop where
 at_:qS R w' s L' v'
 chg:cJ (L.own s) w w'
 fr:∀ x,L'.own s x -> L.own s x\/w.heap.size<=x
section
variable {R:Nat -> Prop} {w w' w'':uA} {s:Nat} {L L' L'':SL} {v v' v'':Sv}
theorem qS.own_lt (h:qS R w s L v) {x:Nat} (hx:L.own s x):x<w.heap.size:=by
 rcases hx with rfl | rfl | ⟨k,b,hx⟩
 ·exact eB h.blk
 ·exact h.mp.lt
 ·exact (qC (h.rows k b) x hx).2
theorem qS.out {S:Nat -> Prop} (h:qS R w s L v) (hc:cJ S w w') (hS:∀ x,S x -> ¬ R x/\¬ L.own s x):qS R w' s L v:=by
 obtain ⟨T,hT,hC⟩:=hc.list
 refine ⟨hC.keep h.blk fun q=>(hS _ (hT _ q).1).2 (.inl rfl),h.rl.chg hC fun x hx q=>(hS x (hT x q).1).1 hx.1,h.mp.chg hC fun q=>(hS _ (hT _ q).1).2 (.inr (.inl rfl)),fun k b=>xE (h.rows k b) hC fun x hx q=>(hS x (hT x q).1).2 (.inr (.inr ⟨k,b,hx⟩)),h.dis,h.sm,h.sr,fun x hx=>tA (h.lt x hx) hC.size⟩
theorem qS.mono {R₂:Nat -> Prop} (h:qS R w s L v) (hR:∀ x,x<w.heap.size -> R x -> R₂ x):qS R₂ w s L v:=⟨h.blk,⟨h.rl.1,fun x hx=>⟨hR x (h.lt x hx) (h.rl.2 x hx).1,(h.rl.2 x hx).2⟩⟩,h.mp,h.rows,h.dis,h.sm,h.sr,h.lt⟩
theorem qS.below (h:qS R w s L v) (hb:Below w.heap.size w w'):qS R w' s L v:=h.out (S:=fun _=>False) (cJ.below hb) (fun x hx=>hx.elim)
theorem qI.refl (h:qS R w s L v) (hb:Below w.heap.size w w'):qI R s L L v w w':=⟨h.below hb,cJ.below hb,fun x hx=>.inl hx⟩
theorem qI.trans (h:qI R s L L' v' w w') (k:qI R s L' L'' v'' w' w''):qI R s L L'' v'' w w'' :=
 ⟨k.at_,h.chg.trans k.chg h.fr,fun x hx=>by
  rcases k.fr x hx with q | q
  ·exact h.fr x q
  ·exact .inr (pA h.chg.size q)⟩
theorem zAo (g:Int -> Bool -> Option mB × Nat) (f:Int -> Bool -> List UInt8) (k:Int) (b:Bool) (A:Option mB) (c:Nat) (d:List UInt8) :
  bI (fun k b=>zE (g k b).1 (f k b).length (g k b).2) k b (.slice A d.length c)=fun k' b'=>zE ((bI g k b (A,c)) k' b').1 ((bI f k b d) k' b').length ((bI g k b (A,c)) k' b').2:=by
 funext k' b'
 unfold bI
 split <;> rfl
theorem qS.setL (h:qS R w s L v) (hR:∀ x,w.heap.size<=x -> R x) (hb:Below w.heap.size w w') {A:Option mB} {c:Nat} {l:List Rp} (ho:w'.ownsRow w.heap.size 124 5 (.slice A l.length c) l.length (flat fJ l)) (hl:l.length<=1000000) :
  qI R s L { L with lA:=A,lc:=c } { v with l:=l } w (w'.setCell ⟨s,1,none⟩ (.slice A l.length c)):=by
 have h2:=h.below hb
 have hs:=eB h.blk
 have hA:∀ x ∈ zB A,w.heap.size<=x:=fun x hx=>(qC ho x hx).1
 have hC:fD [s] w' (w'.setCell ⟨s,1,none⟩ (.slice A l.length c)):=(fD.refl [s] w').setCell (.inl (by simp)) 1 _
 refine ⟨⟨?_,⟨(yB.of_own ho hl).chg hC (fun x hx q => ?_),fun x hx=>⟨hR x (hA x hx),fun q => ?_⟩⟩,h2.mp.chg hC (fun q => ?_),fun k b=>xE (h2.rows k b) hC (fun x hx q => ?_),h.dis,h.sm,h.sr,fun x hx=>tA (qC ho x hx).2 hC.size⟩,(cJ.below hb).trans (cJ.of hC (fun x hx=>.inl ?_)) (fun x hx=>.inl hx),fun x hx=>.inl hx⟩
 ·have:=zD (i:=1) h2.blk (.slice A l.length c)
  simpa using this
 ·have:=hA x hx
  simp only [xB] at q
  omega
 ·have:=hA x hx
  have:=h.own_lt (show L.own s x from q)
  omega
 ·simp only [xB] at q
  exact h.sm q.symm
 ·simp only [xB] at q
  exact (h.sr k b x hx).1 q
 ·simp only [xB] at hx
  exact .inl hx
theorem qS.del (h:qS R w s L v) {k:Int} {b:Bool} {n:Nat} (hc:fD [L.M] w w') (hp:xN w' L.M n (bI (fun k b=>zE (L.g k b).1 (v.f k b).length (L.g k b).2) k b (.slice none 0 0))) :
  qI R s L { L with n:=n,g:=bI L.g k b (none,0) } { v with f:=bI v.f k b [] } w w':=by
 have hsub:∀ k' b' x,x ∈ zB (bI L.g k b (none,0) k' b').1 -> ¬ (k'=k/\b'=b)/\x ∈ zB (L.g k' b').1:=fun k' b' x hx=>by
  unfold bI at hx
  split at hx
  ·simp [zB] at hx
  ·exact ⟨‹_›,hx⟩
 have hown:∀ x,({ L with n:=n,g:=bI L.g k b (none,0) }:SL).own s x -> L.own s x:=fun x hx=>by
  rcases hx with q | q | ⟨k',b',q⟩
  ·exact .inl q
  ·exact .inr (.inl q)
  ·exact .inr (.inr ⟨k',b',(hsub k' b' x q).2⟩)
 have hne:∀ x,x≠L.M -> x ∉ [L.M]:=fun x hx q=>hx (xB.1 q)
 refine ⟨⟨hc.keep h.blk (hne _ h.sm),⟨(h.rl.1.chg hc fun x hx=>hne x fun e=>(h.rl.2 x hx).2 (.inr (.inl e))),fun x hx=>⟨(h.rl.2 x hx).1,fun q=>(h.rl.2 x hx).2 (hown x q)⟩⟩,?_,fun k' b' => ?_,fun k' b' k2 b2 x h1 h2=>h.dis _ _ _ _ x (hsub _ _ _ h1).2 (hsub _ _ _ h2).2,h.sm,fun k' b' x hx=>h.sr k' b' x (hsub _ _ _ hx).2,fun x hx=>tA (h.lt x hx) hc.size⟩,cJ.of hc (fun x hx=>.inl (.inr (.inl (xB.1 hx)))),fun x hx=>.inl (hown x hx)⟩
 ·rw [<- zAo L.g v.f k b none 0 []]
  exact hp
 ·unfold bI
  by_cases e:k'=k/\b'=b
  ·simp only [if_pos e]
   exact nB _ _ _ _
  ·simp only [if_neg e]
   exact xE (h.rows k' b') hc fun x hx=>hne x (h.sr k' b' x hx).2
theorem qS.put (h:qS R w s L v) {k:Int} {b:Bool} {n:Nat} {A:Option mB} {c:Nat} {d:List UInt8} (ho:w.ownsRow 0 5 1 (.slice A d.length c) d.length (d.map pI)) (hA:∀ x ∈ zB A,¬ L.own s x/\x ∉ zB L.lA) {B:Nat} (hA2:∀ x ∈ zB A,B<=x) (hc:fD [L.M] w w') (hp:xN w' L.M n (bI (fun k b=>zE (L.g k b).1 (v.f k b).length (L.g k b).2) k b (.slice A d.length c))) :
  qS R w' s { L with n:=n,g:=bI L.g k b (A,c) } { v with f:=bI v.f k b d }/\∀ x,({ L with n:=n,g:=bI L.g k b (A,c) }:SL).own s x -> L.own s x\/B<=x:=by
 have hsub:∀ k' b' x,x ∈ zB (bI L.g k b (A,c) k' b').1 -> (k'=k/\b'=b/\x ∈ zB A)\/(¬ (k'=k/\b'=b)/\x ∈ zB (L.g k' b').1):=fun k' b' x hx=>by
  unfold bI at hx
  split at hx
  ·rename_i e
   exact .inl ⟨e.1,e.2,hx⟩
  ·exact .inr ⟨‹_›,hx⟩
 have hown:∀ x,({ L with n:=n,g:=bI L.g k b (A,c) }:SL).own s x -> L.own s x\/x ∈ zB A:=fun x hx=>by
  rcases hx with q | q | ⟨k',b',q⟩
  ·exact .inl (.inl q)
  ·exact .inl (.inr (.inl q))
  ·rcases hsub k' b' x q with q | q
   ·exact .inr q.2.2
   ·exact .inl (.inr (.inr ⟨k',b',q.2⟩))
 have hne:∀ x,x≠L.M -> x ∉ [L.M]:=fun x hx q=>hx (xB.1 q)
 have hAM:∀ x ∈ zB A,x≠L.M:=fun x hx e=>(hA x hx).1 (.inr (.inl e))
 refine ⟨⟨hc.keep h.blk (hne _ h.sm),⟨(h.rl.1.chg hc fun x hx=>hne x fun e=>(h.rl.2 x hx).2 (.inr (.inl e))),fun x hx=>⟨(h.rl.2 x hx).1,fun q => ?_⟩⟩,?_,fun k' b' => ?_,fun k' b' k2 b2 x h1 h2 => ?_,h.sm,fun k' b' x hx => ?_,fun x hx=>tA (h.lt x hx) hc.size⟩,fun x hx=>(hown x hx).imp id (hA2 x)⟩
 ·rcases hown x q with q | q
  ·exact (h.rl.2 x hx).2 q
  ·exact (hA x q).2 hx
 ·rw [<- zAo L.g v.f k b A c d]
  exact hp
 ·unfold bI
  by_cases e:k'=k/\b'=b
  ·simp only [if_pos e]
   exact xE ho hc fun x hx=>hne x (hAM x hx)
  ·simp only [if_neg e]
   exact xE (h.rows k' b') hc fun x hx=>hne x (h.sr k' b' x hx).2
 ·rcases hsub _ _ _ h1 with p | p <;> rcases hsub _ _ _ h2 with q | q
  ·exact ⟨p.1.trans q.1.symm,p.2.1.trans q.2.1.symm⟩
  ·exact ((hA x p.2.2).1 (.inr (.inr ⟨_,_,q.2⟩))).elim
  ·exact ((hA x q.2.2).1 (.inr (.inr ⟨_,_,p.2⟩))).elim
  ·exact h.dis _ _ _ _ x p.2 q.2
 ·rcases hsub _ _ _ hx with p | p
  ·exact ⟨fun e=>(hA x p.2.2).1 (.inl e),hAM x p.2.2⟩
  ·exact h.sr k' b' x p.2
end
theorem zAr {w:uA} {ops:Array Oper} {rest:List Oper} {o:Oper} {a:Act} {Q:Exit -> Act -> uA -> Prop} (hgd:o.guard=none) (m x:Operand)
  (hop:o.op=Op.call { callee:=Callee.builtin Builtin.delete,args:=#[m,x],argTypes:=#[135,139] }) {M n:Nat} {f:Int -> Bool -> uB} {k:Int} {b:Bool} (hm:a.eval m=.map (yA M)) (hx:a.eval x=.agg #[k,.bool b])
  (h:xN w M n f) (hw:(cE .i64 k).wf=true) (hK:∀ w',xN w' M n (bI f k b (.slice none 0 0)) -> fD [M] w w' -> wpList prog ops Q rest (a.put o.dst (.tuple #[])) w'):wpList prog ops Q (o :: rest) a w:=by
 refine wpList_plain hgd fun K' hK' => ?_
 obtain ⟨w',hrun,r1,r2⟩:=h.drop hw b o.type
 unfold Oper.wp
 simp [execOp,hop,resolve,invoke,builtin,hm,hx,hrun,Result.andThen]
 exact hK' _ _ (hK w' r1 r2)
theorem zNd (room:Int) (w:uA):iA prog 49 #[room] w fun e w'=>e=.returned (.pointer (yA ⟨w.heap.size+1,0,none⟩))/\Below w.heap.size w w'/\w'.heap.size=w.heap.size+2/\∀ R,qS R w' (w.heap.size+1) ⟨w.heap.size,0,none,0,fun _ _=>(none,0)⟩ ⟨min (max room 0) 16,[],fun _ _=>[]⟩:=by
 have hmm:=@run_makeMap prog
 go_enter func49,ntmps49
 go_wp2
 go_ret
 have hb:=yI w (.map #[] 0) (zQS (min (max room 0) 16) (.slice none 0 0) w.heap.size)
 refine ⟨rfl,hb,by simp,fun R => ?_⟩
 have g0:xN ((w.alloc (.map #[] 0)).alloc (zQS (min (max room 0) 16) (.slice none 0 0) w.heap.size)) w.heap.size 0 (fun _ _=>.slice none 0 0):=(xN.made w).below (wA _ _)
 have g1:=sF w (.map #[] 0) (zQS (min (max room 0) 16) (.slice none 0 0) w.heap.size)
 exact ⟨g1,⟨yB.nil,fun x hx=>(by simp [zB] at hx)⟩,g0,fun _ _=>nB _ _ _ _,fun _ _ _ _ x hx=>(by simp [zB] at hx),by simp,fun _ _ x hx=>(by simp [zB] at hx),fun x hx=>(by simp [zB] at hx)⟩
theorem zCK (s M:Nat) (room:Int) (l0:uB) (A:Option mB) (n c:Nat) (e:Int) (w:uA) (h:w.heap[s]?=yA (zQS room l0 M)):iA prog 188 #[(s,0),.slice A n c,e] w fun en w'=>en=.returned (.int .i64 e)/\w'=if e=0 then w.setCell ⟨s,1,none⟩ (.slice A n c) else w:=by
 have c1:=jA h 1
 have f1:=qB h 1
 by_cases he:e=0
 ·subst he
  go_enter func188,ntmps188
  go_wp2
  go_ret
  exact ⟨rfl,rfl⟩
 ·go_enter func188,ntmps188
  go_wp2
  go_ret
  exact ⟨rfl,rfl⟩
def Sv.abort (v:Sv) (t:Int):Sv:={ v with l:=nE (eT t) (rD v.l),f:=bI v.f t true [] }
def Sv.remove (v:Sv) (t:Int):Sv × Int:=if (nN v.l t).2=0 then ({ v with l:=(nN v.l t).1,f:=bI v.f t false [] },0) else (v,(nN v.l t).2)
def Sv.wipe (v:Sv):Sv:={ v with l:=[],f:=fun _ _=>[] }
def Sv.report (v:Sv):List Rp:=nE zGB (rD v.l)
def Sv.commit (v:Sv) (t ver:Int):Sv × Int:=if (zM v.l t ver).2=0 then ({ v with l:=(zM v.l t ver).1,f:=bI (bI v.f t false (v.f t true)) t true [] },0) else (v,(zM v.l t ver).2)
def Sv.begin (v:Sv) (t ver sm:Int) (d:List UInt8):Sv × Int :=
 if 64<d.length then (v,7) else if U (sum d)≠sm then (v,4)
 else if (wO v.l (t,ver,sm,false,false) v.room).2=0 then ({ v with l:=(wO v.l (t,ver,sm,false,false) v.room).1,f:=bI v.f t true d },0) else (v,(wO v.l (t,ver,sm,false,false) v.room).2)
def zDF (R:Nat -> Prop) (s:Nat) (L:SL) (q:Nat) (w:uA) (r:uB) (v':Sv) (e:Ending) (w':uA):Prop:=e=.returned r/\∃ L',qI R s L L' v' w w'/\L'.n<=L.n+q
theorem zDj (R:Nat -> Prop) (s:Nat) (L:SL) (v:Sv) (w:uA) (h:qS R w s L v):iA prog 64 #[(s,0)] w (mD 124 5 v.report.length (flat fJ v.report) w):=by
 have c1:=jA h.blk 1
 have HC:jC (∀ W,Below w.heap.size w W -> iA prog 134 #[.slice L.lA v.l.length L.lc] W (mD 124 5 v.report.length (flat fJ v.report) W)):=fA fun W hb=>zDg L.lA L.lc v.l W (h.rl.1.below hb)
 go_enter func64,ntmps64
 go_wp2_with (go_at_call 134;refine (HC.out _ (xC _)).mono ?_;rintro e w1 ⟨A,c,rfl,own1,hb1⟩)
 go_ret
 exact ⟨A,c,rfl,own1,hb1⟩
theorem zIY (R:Nat -> Prop) (s:Nat) (L:SL) (v:Sv) (t:Int) (w:uA) (h:qS R w s L v) (ho:bH v) (hR:∀ x,w.heap.size<=x -> R x) (ht:(cE .i64 t).wf=true):iA prog 142 #[(s,0),t] w (zDF R s L 0 w (.tuple #[]) (v.abort t)):=by
 have c1:=jA h.blk 1
 have HC:jC (∀ W,Below w.heap.size w W -> iA prog 225 #[.slice L.lA v.l.length L.lc,t] W (mD 124 5 (nE (eT t) (rD v.l)).length (flat fJ (nE (eT t) (rD v.l))) W)):=fA fun W hb=>zJn L.lA L.lc v.l t W (h.rl.1.below hb)
 have hl:=fA (show (nE (eT t) (rD v.l)).length<=1000000 from by have:=eC (fun x => !eT t x) (rD v.l);have:=jL v.l;have:=ho.l;unfold nE;omega)
 go_enter func142,ntmps142
 go_wp2_with (first
  | (go_at_call 225;refine (HC.out _ (xC _)).mono ?_;rintro e w1 ⟨A,c,rfl,own1,hb1⟩;have st1:=fA (h.setL hR hb1 own1 hl.out);have g1:=kA hb1 h.blk;have k1:=jA g1 1;have k2:=jA st1.out.at_.blk 2;have f1:=qB g1 1)
  | (at_delete;refine zAr rfl _ _ rfl rfl rfl st1.out.at_.mp ht ?_;intro w2 hp2 hc2))
 go_end0
 exact ⟨rfl,_,st1.out.trans (st1.out.at_.del hc2 hp2),mA _⟩
theorem zKR (R:Nat -> Prop) (s:Nat) (L:SL) (v:Sv) (w:uA) (h:qS R w s L v):iA prog 72 #[(s,0)] w (zDF R s L 0 w (.tuple #[]) v.wipe):=by
 have k1:=jA h.blk 1
 have f1:=qB h.blk 1
 have hC:fD [s] w (w.setCell ⟨s,1,none⟩ (.slice none 0 0)):=(fD.refl [s] w).setCell (.inl (by simp)) 1 _
 have g1:(w.setCell ⟨s,1,none⟩ (.slice none 0 0)).heap[s]?=yA (zQS v.room (.slice none 0 0) L.M):=by
  have:=zD (i:=1) h.blk (.slice none 0 0)
  simpa using this
 have k2:=jA g1 2
 have hM:=h.mp.chg hC (fun q=>h.sm (xB.1 q).symm)
 have HH:=fA h
 have HG:=fA g1
 have HC:=fA hC
 clear h g1 hC
 go_enter func72,ntmps72
 obtain ⟨w2,hrun,hp2,hc2⟩:=hM.clear 0
 go_wp2
 go_end0
 have h:=HH.out
 have hne:∀ x,L.own s x -> x=s\/x=L.M\/(x≠s/\x≠L.M):=fun x _=>by by_cases h1:x=s;exact .inl h1;by_cases h2:x=L.M;exact .inr (.inl h2);exact .inr (.inr ⟨h1,h2⟩)
 refine ⟨rfl,{ L with n:=0,lA:=none,lc:=0,g:=fun _ _=>(none,0) },⟨⟨hc2.keep HG.out (fun q=>h.sm (xB.1 q)),⟨yB.nil,fun x hx=>(by simp [zB] at hx)⟩,hp2,fun _ _=>nB _ _ _ _,fun _ _ _ _ x hx=>(by simp [zB] at hx),h.sm,fun _ _ x hx=>(by simp [zB] at hx),fun x hx=>(by simp [zB] at hx)⟩,?_,?_⟩,vC _⟩
 ·exact (cJ.of HC.out (fun x hx=>.inl (.inl (xB.1 hx)))).trans (cJ.of (P:=L.own s) hc2 (fun x hx=>.inl (.inr (.inl (xB.1 hx))))) (fun x hx=>.inl hx)
 ·rintro x (q | q | ⟨k,b,q⟩)
  ·exact .inl (.inl q)
  ·exact .inl (.inr (.inl q))
  ·simp [zB] at q
theorem zDS (xs:List Rp) (t:Int):(nN xs t).1.length<=xs.length:=by
 unfold nN nE
 split
 ·exact pA (eC _ _) (jL xs)
 ·exact vC _
theorem zDi (R:Nat -> Prop) (s:Nat) (L:SL) (v:Sv) (t:Int) (w:uA) (h:qS R w s L v) (ho:bH v) (hR:∀ x,w.heap.size<=x -> R x) (ht:(cE .i64 t).wf=true):iA prog 113 #[(s,0),t] w (zDF R s L 0 w (.int .i64 (v.remove t).2) (v.remove t).1):=by
 have c1:=jA h.blk 1
 have HC:jC (∀ W,Below w.heap.size w W -> iA prog 189 #[.slice L.lA v.l.length L.lc,t] W (zDm (nN v.l t) W)):=fA fun W hb=>zIK L.lA L.lc v.l t W (h.rl.1.below hb)
 have hl:=fA (show (nN v.l t).1.length<=1000000 from by have:=zDS v.l t;have:=ho.l;omega)
 have HT:=fA (fun W A n c e (hb:W.heap[s]?=yA (zQS v.room (.slice L.lA v.l.length L.lc) L.M))=>zCK s L.M v.room _ A n c e W hb)
 have HV:jC (v.remove t=if (nN v.l t).2=0 then ({ v with l:=(nN v.l t).1,f:=bI v.f t false [] },0) else (v,(nN v.l t).2)):=fA rfl
 have HH:=fA h
 generalize nN v.l t=r at *
 obtain ⟨r1,r2⟩:=r
 simp only at hl HC HV
 clear h
 have HRV:=fA hR
 by_cases hr:r2=0
 ·subst hr
  have HV2:jC (v.remove t=({ v with l:=r1,f:=bI v.f t false [] },0)):=fA (by rw [HV.out,if_pos rfl])
  clear HV
  go_enter func113,ntmps113
  go_wp2_with (first
   | (go_at_call 189;refine (HC.out _ (xC _)).mono ?_;rintro e w1 ⟨A,c,rfl,own1,hb1⟩;have st1:=fA (HH.out.setL HRV.out hb1 own1 hl.out);have g1:=kA hb1 HH.out.blk;have k2:=jA st1.out.at_.blk 2)
   | (go_at_call 188;refine (HT.out _ _ _ _ _ g1).mono ?_;rintro e w2 ⟨rfl,hw2⟩;rw [if_pos rfl] at hw2;subst hw2)
   | (at_delete;refine zAr rfl _ _ rfl rfl rfl st1.out.at_.mp ht ?_;intro w3 hp3 hc3))
  go_ret
  rw [HV2.out]
  exact ⟨rfl,_,st1.out.trans (st1.out.at_.del hc3 hp3),mA _⟩
 ·have HV2:jC (v.remove t=(v,r2)):=fA (by rw [HV.out,if_neg hr])
  clear HV
  go_enter func113,ntmps113
  go_wp2_with (first
   | (go_at_call 189;refine (HC.out _ (xC _)).mono ?_;rintro e w1 ⟨A,c,rfl,own1,hb1⟩;have g1:=kA hb1 HH.out.blk)
   | (go_at_call 188;refine (HT.out _ _ _ _ _ g1).mono ?_;rintro e w2 ⟨rfl,hw2⟩;rw [if_neg hr] at hw2;subst hw2))
  go_ret
  rw [HV2.out]
  exact ⟨rfl,L,qI.refl HH.out hb1,mA _⟩
theorem zEn (w:uA) (F:Nat) (x y z:uB):fD [F] w (zDB w F x y z):=(((fD.refl _ w).setCell (b:=F) (.inl (by simp)) 0 x).setCell (b:=F) (.inl (by simp)) 1 y).setCell (b:=F) (.inl (by simp)) 2 z
def lT (K p q r:Int) (ns:List Nd) (cs:List Ch):List Nd × List Ch × Int:=if zCC ns cs then ((iX K p q r ns cs).1,(iX K p q r ns cs).2.1,zKy (iX K p q r ns cs).2.2.1 (iX K p q r ns cs).2.2.2) else (ns,cs,-1)
def RetAp (z:List Nd × List Ch × Int) (w:uA) (en:Ending) (w':uA):Prop:=∃ A c B d,en=.returned (.tuple #[.agg #[.slice A z.1.length c,.slice B z.2.1.length d,.slice none 0 0],.int .i64 z.2.2])/\rQ (fun x=>w.heap.size<=x) qH w' A c z.1/\zBU (fun x=>w.heap.size<=x) w' B d z.2.1/\Below w.heap.size w w'
theorem zFJ (A B:Option mB) (c d:Nat) (ns:List Nd) (cs:List Ch) (x2 K p q' r:Int) (w:uA) (hK:K=1\/K=2\/K=3\/K=4\/K=5\/K=6) (h:yB qH w A c ns) (k:vM w B d cs) :
  iA prog 55 #[.agg #[.slice A ns.length c,.slice B cs.length d,.slice none 0 0],.agg #[.int .i64 0,x2,K,p,q',r]] w (RetAp (lT K p q' r ns cs) w):=by
 have hmn:=h.max
 have hmc:=k.max
 obtain ⟨W,hW⟩:∃ W,W=((w.alloc (.cells #[.slice A ns.length c,.slice B cs.length d,.slice none 0 0] 51)).alloc (.cells #[.int .i64 0,x2,K,p,q',r] 99)).alloc (.cells #[.slice none 0 0,.slice none 0 0,.slice none 0 0] 51):=⟨_,rfl⟩
 have h1:=wA w (.cells #[.slice A ns.length c,.slice B cs.length d,.slice none 0 0] 51)
 have h2:=h1.alloc h1.size (.cells #[.int .i64 0,x2,K,p,q',r] 99)
 have h3:=h2.alloc h2.size (.cells #[.slice none 0 0,.slice none 0 0,.slice none 0 0] 51)
 have e1:(w.alloc (.cells #[.slice A ns.length c,.slice B cs.length d,.slice none 0 0] 51)).heap.size=w.heap.size+1:=by simp
 have e2:((w.alloc (.cells #[.slice A ns.length c,.slice B cs.length d,.slice none 0 0] 51)).alloc (.cells #[.int .i64 0,x2,K,p,q',r] 99)).heap.size=w.heap.size+1+1:=by simp
 have gM:W.heap[w.heap.size]?=yA (.cells #[.slice A ns.length c,.slice B cs.length d,.slice none 0 0] 51):=by
  rw [hW];exact zF (zF (rB _ _) _) _
 have gC:W.heap[w.heap.size+1]?=yA (.cells #[.int .i64 0,x2,K,p,q',r] 99):=by
  rw [hW,<- e1];exact zF (rB _ _) _
 have gR:W.heap[w.heap.size+1+1]?=yA (.cells #[.slice none 0 0,.slice none 0 0,.slice none 0 0] 51):=by
  rw [hW,<- e2];exact rB _ _
 rw [<- hW] at h3
 have hFD:W.heap.size=w.heap.size+1+1+1:=by rw [hW];simp
 have HFD:=fA hFD
 have HW:=fA hW
 have HCO:=fA (zJI A B c d ns cs W (h.below h3) (k.below h3))
 have HMY:jC (∀ (W':uA) (A B:Option mB) (c d:Nat),yB qH W' A c ns -> vM W' B d cs -> iA prog 115 #[.agg #[.slice A ns.length c,.slice B cs.length d,.slice none 0 0]] W' fun e w'=>e=.returned (.bool (zCC ns cs))/\Below W'.heap.size W' w'):=fA fun W' A B c d h k=>zOG A B c d ns cs W' h k
 have HDO:jC (zCC ns cs=true -> ∀ (W':uA) (A B:Option mB) (c d:Nat),vS (fun x=>(w.heap.size<=x/\x≠w.heap.size+1+1)/\x<W'.heap.size) qH W' A c ns -> zCj (fun x=>(w.heap.size<=x/\x≠w.heap.size+1+1)/\x<W'.heap.size) W' B d cs -> W.heap.size<=W'.heap.size -> iA prog 116 #[.agg #[.slice A ns.length c,.slice B cs.length d,.slice none 0 0],.agg #[.int .i64 0,x2,K,p,q',r]] W' (zGE (fun x=>w.heap.size<=x/\x≠w.heap.size+1+1) (iX K p q' r ns cs) W')):=fA fun hok W' A B c d hA hB hs=>by
  have hl:ns.length<1000000/\cs.length<1000000:=by
   simp only [zCC,kC,pG,decide_eq_true_eq] at hok
   have:=zBC ns 0 hok.1
   omega
  exact zNU _ A B c d ns cs x2 K p q' r W' hK hA hB (fun x hx=>by have:=HFD.out;omega) hl.1 hl.2
 unfold lT
 clear h k hFD hW h1 h2 e1 e2
 have GC:=fA gC
 have GR:=fA gR
 obtain ⟨m0,m1,m2,_,_,_,mlt⟩:=vH gM
 have GM:=fA gM
 clear gM gC gR
 cases hok:zCC ns cs with
 | false =>
  rw [hok] at HMY
  rw [if_neg (by decide)]
  clear hok HDO
  go_enter func55,ntmps55
  go_wp2_with (first
   | (go_at_call 114;rw [<- HW.out];refine HCO.out.mono ?_;rintro e w1 ⟨A1,c1,B1,d1,rfl,ownA,ownB,hb1⟩;have hFD:=HFD.out;have gM1:=kA hb1 GM.out;obtain ⟨n0,n1,n2,nf0,nf1,nf2,nlt⟩:=vH gM1;have HA1:=fA (bR ownA (show w.heap.size<W.heap.size by omega) (.slice A1 ns.length c1) (.slice B1 cs.length d1) (.slice none 0 0));have HB1:=fA (ownB.chg (S:=[w.heap.size]) (zEn w1 w.heap.size (.slice A1 ns.length c1) (.slice B1 cs.length d1) (.slice none 0 0)) (fun x hx=>by rw [xB] at hx;omega));have HL1:jC (Below w.heap.size w (zDB w1 w.heap.size (.slice A1 ns.length c1) (.slice B1 cs.length d1) (.slice none 0 0))):=fA (rH (h3.trans (hb1.mono h3.size)) (mA _) _ _ _);have GM1:=fA (xI gM1 (.slice A1 ns.length c1) (.slice B1 cs.length d1) (.slice none 0 0));have GC1:=fA (kT (kA hb1 GC.out) (show w.heap.size+1≠w.heap.size by omega) (.slice A1 ns.length c1) (.slice B1 cs.length d1) (.slice none 0 0));have GR1:=fA (kT (kA hb1 GR.out) (show w.heap.size+1+1≠w.heap.size by omega) (.slice A1 ns.length c1) (.slice B1 cs.length d1) (.slice none 0 0));have hs1:=fA hb1.size;clear ownA ownB gM1 hFD)
   | (go_at_call 115;refine (HMY.out (zDB w1 w.heap.size (.slice A1 ns.length c1) (.slice B1 cs.length d1) (.slice none 0 0)) _ _ _ _ (yB.of_own HA1.out hmn) (HB1.out.in_ hmc)).mono ?_;rintro e w3 ⟨rfl,hb3⟩;have HL3:=fA (HL1.out.trans (hb3.mono HL1.out.size));have gM3:=kA hb3 GM1.out;have gR3:=kA hb3 GR1.out;have gC3:=kA hb3 GC1.out;have GM3:=fA gM3;have GR3:=fA gR3;have HA3:=fA (jB HA1.out hb3);have HB3:=fA (HB1.out.below hb3);obtain ⟨o0,o1,o2,of0,of1,of2,olt⟩:=vH gM3;obtain ⟨r0,r1,r2,rf0,rf1,rf2,rlt⟩:=vH gR3;obtain ⟨k0,k1,k2,k3,k4,k5,klt⟩:=zAv gC3;have hs3:jC (W.heap.size<=w3.heap.size):=fA (pA hs1.out (pA (by simp [zDB]) hb3.size));clear n0 n1 n2 nf0 nf1 nf2 nlt hb3 gM3 gR3 gC3))
  obtain ⟨z0,z1,z2,_,_,_,_⟩:=vH (xI GR3.out (.slice A1 ns.length c1) (.slice B1 cs.length d1) (.slice none 0 0))
  refine bodyPost_ret (v:=.tuple #[.agg #[.slice A1 ns.length c1,.slice B1 cs.length d1,.slice none 0 0],.int .i64 (-1)]) (by simp [results,results55,go_sem,z0,z1,z2];try rfl) rfl ?_
  have hFD:=HFD.out
  have hq:fD [w.heap.size+1+1] w3 (zDB w3 (w.heap.size+1+1) (.slice A1 ns.length c1) (.slice B1 cs.length d1) (.slice none 0 0)):=(((fD.refl _ w3).setCell (.inl (by simp)) 0 _).setCell (.inl (by simp)) 1 _).setCell (.inl (by simp)) 2 _
  refine ⟨A1,c1,B1,d1,rfl,(vS.of_own (bR HA3.out (show w.heap.size+1+1<W.heap.size by omega) (.slice A1 ns.length c1) (.slice B1 cs.length d1) (.slice none 0 0)) hmn).mono fun x hx=>⟨by omega,hx.2⟩,((HB3.out.chg hq (fun x hx=>by simp at hx;omega)).q hmc).mono fun x hx=>⟨by omega,hx.2⟩,rH HL3.out (by omega) _ _ _⟩
 | true =>
  rw [hok] at HMY
  rw [if_pos rfl]
  have HDD:=fA (HDO.out hok)
  clear hok HDO
  generalize iX K p q' r ns cs=z at *
  obtain ⟨zn,zc,ze,zm⟩:=z
  go_enter func55,ntmps55
  go_wp2_with (first
   | (go_at_call 114;rw [<- HW.out];refine HCO.out.mono ?_;rintro e w1 ⟨A1,c1,B1,d1,rfl,ownA,ownB,hb1⟩;have hFD:=HFD.out;have gM1:=kA hb1 GM.out;obtain ⟨n0,n1,n2,nf0,nf1,nf2,nlt⟩:=vH gM1;have HA1:=fA (bR ownA (show w.heap.size<W.heap.size by omega) (.slice A1 ns.length c1) (.slice B1 cs.length d1) (.slice none 0 0));have HB1:=fA (ownB.chg (S:=[w.heap.size]) (zEn w1 w.heap.size (.slice A1 ns.length c1) (.slice B1 cs.length d1) (.slice none 0 0)) (fun x hx=>by rw [xB] at hx;omega));have HL1:jC (Below w.heap.size w (zDB w1 w.heap.size (.slice A1 ns.length c1) (.slice B1 cs.length d1) (.slice none 0 0))):=fA (rH (h3.trans (hb1.mono h3.size)) (mA _) _ _ _);have GM1:=fA (xI gM1 (.slice A1 ns.length c1) (.slice B1 cs.length d1) (.slice none 0 0));have GC1:=fA (kT (kA hb1 GC.out) (show w.heap.size+1≠w.heap.size by omega) (.slice A1 ns.length c1) (.slice B1 cs.length d1) (.slice none 0 0));have GR1:=fA (kT (kA hb1 GR.out) (show w.heap.size+1+1≠w.heap.size by omega) (.slice A1 ns.length c1) (.slice B1 cs.length d1) (.slice none 0 0));have hs1:=fA hb1.size;clear ownA ownB gM1 hFD)
   | (go_at_call 115;refine (HMY.out (zDB w1 w.heap.size (.slice A1 ns.length c1) (.slice B1 cs.length d1) (.slice none 0 0)) _ _ _ _ (yB.of_own HA1.out hmn) (HB1.out.in_ hmc)).mono ?_;rintro e w3 ⟨rfl,hb3⟩;have HL3:=fA (HL1.out.trans (hb3.mono HL1.out.size));have gM3:=kA hb3 GM1.out;have gR3:=kA hb3 GR1.out;have gC3:=kA hb3 GC1.out;have GM3:=fA gM3;have GR3:=fA gR3;have HA3:=fA (jB HA1.out hb3);have HB3:=fA (HB1.out.below hb3);obtain ⟨o0,o1,o2,of0,of1,of2,olt⟩:=vH gM3;obtain ⟨r0,r1,r2,rf0,rf1,rf2,rlt⟩:=vH gR3;obtain ⟨k0,k1,k2,k3,k4,k5,klt⟩:=zAv gC3;have hs3:jC (W.heap.size<=w3.heap.size):=fA (pA hs1.out (pA (by simp [zDB]) hb3.size));clear n0 n1 n2 nf0 nf1 nf2 nlt hb3 gM3 gR3 gC3)
   | (go_at_call 116;refine (HDD.out w3 _ _ _ _ ((vS.of_own HA3.out hmn).mono fun x hx=>⟨by have:=HFD.out;have:=hx.1;omega,hx.2⟩) ((HB3.out.q hmc).mono fun x hx=>⟨by have:=HFD.out;have:=hx.1;omega,hx.2⟩) hs3.out).mono ?_;rintro e w4 ⟨A4,c4,B4,d4,rfl,hA4,hB4,hb4⟩;have gR4:=kA hb4 GR3.out;have GR4:=fA gR4;have HA4:=fA hA4;have HB4:=fA hB4;have HL4:=fA (HL3.out.trans (hb4.mono HL3.out.size));obtain ⟨s0,s1,s2,sf0,sf1,sf2,slt⟩:=vH gR4;clear hA4 hB4 gR4 hb4))
  obtain ⟨z0,z1,z2,_,_,_,_⟩:=vH (xI GR4.out (.slice A4 zn.length c4) (.slice B4 zc.length d4) (.slice none 0 0))
  refine bodyPost_ret (v:=.tuple #[.agg #[.slice A4 zn.length c4,.slice B4 zc.length d4,.slice none 0 0],.int .i64 (zKy ze zm)]) (by simp [results,results55,go_sem,z0,z1,z2];try rfl) rfl ?_
  have hq:∀ x,(w.heap.size<=x/\x≠w.heap.size+1+1) -> x ∉ [w.heap.size+1+1]:=fun x hx hc=>hx.2 (by simpa using hc)
  have hch:=zEn w4 (w.heap.size+1+1) (.slice A4 zn.length c4) (.slice B4 zc.length d4) (.slice none 0 0)
  exact ⟨A4,c4,B4,d4,rfl,(HA4.out.chg hch hq).mono fun x hx=>hx.1,(HB4.out.chg hch hq).mono fun x hx=>hx.1,rH HL4.out (by omega) _ _ _⟩
theorem zBE:∀ (l:List Int) (a b:Int),mJ l a b=true ↔ l.Pairwise (·<·)/\∀ x ∈ l,a<=x/\x<=b
 | [],a,b=>by simp [mJ]
 | n :: l, a, b => by
  simp only [mJ,kC,decide_eq_true_eq,zBE l (n+1) b,fV,zAG]
  constructor
  ·rintro ⟨⟨h1,h2⟩,h3,h4⟩
   exact ⟨⟨fun x hx=>by have:=h4 x hx;omega,h3⟩,⟨h1,h2⟩,fun x hx=>by have:=h4 x hx;omega⟩
  ·rintro ⟨⟨h1,h2⟩,⟨h3,h4⟩,h5⟩
   exact ⟨⟨h3,h4⟩,h2,fun x hx=>by have:=h1 x hx;have:=h5 x hx;omega⟩
theorem zBD:∀ (l:Int) (xs:List Nd),jH l xs=true ↔ (xs.map (·.1)).Pairwise (·<·)/\∀ x ∈ xs,fZ x=true/\l<x.1
 | l,[]=>by simp [jH]
 | l, n :: xs => by
  simp only [jH,kC,decide_eq_true_eq,zBD n.1 xs,List.map_cons,fV,zAG]
  constructor
  ·rintro ⟨⟨h1,h2⟩,h3,h4⟩
   refine ⟨⟨fun x hx => ?_,h3⟩,⟨h1,h2⟩,fun x hx=>⟨(h4 x hx).1,by have:=(h4 x hx).2;omega⟩⟩
   obtain ⟨y,hy,rfl⟩:=jJ.1 hx
   exact (h4 y hy).2
  ·rintro ⟨⟨h1,h2⟩,⟨h3,h4⟩,h5⟩
   exact ⟨⟨h3,h4⟩,h2,fun x hx=>⟨(h5 x hx).1,h1 _ (jJ.2 ⟨x,hx,rfl⟩)⟩⟩
theorem zNE (f:Nat -> Int) (n:Nat) (hm:∀ a b,a<=b -> b<n -> f b<0 -> f a<0) (i j:Nat) (hij:i<=j) (hj:j<=n) (h1:∀ a,a<i -> f a<0) (h2:∀ a,j<=a -> a<n -> ¬ f a<0) :
  (∀ a,a<dG f i j -> f a<0)/\∀ a,dG f i j<=a -> a<n -> ¬ f a<0:=by
 fun_induction dG f i j with
 | case1 i j g1 g2 ih=>exact ih (by omega) hj (fun a ha=>hm a _ (by omega) (by omega) g2) h2
 | case2 i j g1 g2 ih=>exact ih (by omega) (by omega) h1 (fun a ha hn q=>g2 (hm _ a ha hn q))
 | case3 i j g1=>exact ⟨h1,fun a ha=>h2 a (by omega)⟩
theorem zGZ {ks:List Int} {t:Int} {a:Nat} (ha:a<ks.length):ifn ks t a<0 ↔ ks[a]'ha<t:=by
 unfold ifn
 rw [pB,rA ha]
 exact zEq _ _
theorem zOm {ks:List Int} (h:ks.Pairwise (·<·)) (t:Int):(∀ a (ha:a<ks.length),a<dG (ifn ks t) 0 ks.length -> ks[a]'ha<t)/\∀ a (ha:a<ks.length),dG (ifn ks t) 0 ks.length<=a -> t<=ks[a]'ha:=by
 have hs:=zNE (ifn ks t) ks.length (fun a b hab hb hf=>by
  rw [zGZ hb] at hf
  rw [zGZ (Nat.lt_of_le_of_lt hab hb)]
  rcases kI a b with q | q
  ·have:=uW.1 h a b (by omega) hb q
   omega
  ·obtain rfl:a=b:=by omega
   exact hf) 0 ks.length (vC _) (mA _) (fun a ha=>by omega) (fun a h1 h2=>by omega)
 exact ⟨fun a ha hp=>(zGZ ha).1 (hs.1 a hp),fun a ha hp=>by have:=hs.2 a hp ha;rw [zGZ ha] at this;omega⟩
theorem zHa {ks : List Int} (h : ks.Pairwise (· < ·)) (t : Int) (hn : kL (ifn ks t) ks.length = false) : (ks.take (dG (ifn ks t) 0 ks.length) ++ [t] ++ ks.drop (dG (ifn ks t) 0 ks.length)).Pairwise (· < ·) := by
 obtain ⟨h1,h2⟩:=zOm h t
 unfold kL at hn
 generalize dG (ifn ks t) 0 ks.length=p at *
 have h3:∀ a (ha:a<ks.length),p<=a -> t<ks[a]'ha:=fun a ha hp=>by
  have hpl:p<ks.length:=by omega
  have hne:ks[p]'hpl≠t:=fun e=>by
   have:decide (ifn ks t p=0)=true:=by
    rw [decide_eq_true_eq]
    unfold ifn
    rw [pB,rA hpl]
    exact (zFL _ _).2 e
   rw [this,decide_eq_true hpl] at hn
   cases hn
  have hle:=h2 p hpl (mA _)
  rcases kI p a with q | q
  ·have:=uW.1 h p a hpl ha q
   omega
  ·obtain rfl:a=p:=by omega
   omega
 have h4:∀ x ∈ ks.take p,x<t:=fun x hx=>by
  obtain ⟨i,hi,rfl⟩:=List.mem_take_iff_getElem.1 hx
  exact h1 i (by omega) (by omega)
 have h5:∀ x ∈ ks.drop p,t<x:=fun x hx=>by
  obtain ⟨i,hi,rfl⟩:=List.mem_drop_iff_getElem.1 hx
  exact h3 (p+i) (by omega) (by omega)
 rw [List.append_assoc,List.pairwise_append]
 refine ⟨h.sublist (List.take_sublist _ _),?_,fun a ha b hb => ?_⟩
 ·rw [qO,fV]
  exact ⟨h5,h.sublist (List.drop_sublist _ _)⟩
 ·rw [qO,List.mem_cons] at hb
  have:=h4 a ha
  rcases hb with rfl | hb
  ·exact this
  ·have:=h5 b hb;omega
theorem zQD (xs:List Nd) (t:Int):nfn xs t=ifn (xs.map (·.1)) t:=by
 funext m
 unfold nfn ifn
 rw [pB,pB,zJ]
 cases xs[m]? <;> rfl
theorem zQh (xs:List Ch) (t:Int):cfn xs t=ifn (xs.map (·.1)) t:=by
 funext m
 unfold cfn ifn
 rw [pB,pB,zJ]
 cases xs[m]? <;> rfl
theorem zGL {f:Nat -> Int} {n:Nat} (h:kL f n=true):dG f 0 n<n:=by
 unfold kL at h
 rw [kC,decide_eq_true_eq] at h
 exact h.1
theorem zEe {α:Type} {P:α -> Prop} {xs:List α} (h:∀ x ∈ xs,P x) {y:α} (hy:P y) (p:Nat):∀ x ∈ xs.take p ++ [y] ++ xs.drop p,P x:=fun x hx=>by
 simp only [List.mem_append,xB] at hx
 rcases hx with (hx | rfl) | hx
 ·exact h x (List.mem_of_mem_take hx)
 ·exact hy
 ·exact h x (List.mem_of_mem_drop hx)
theorem zFS {xs:List Nd} (h:jH 0 xs=true):tD xs=xs:=by unfold tD;rw [if_pos h]
theorem zBw {xs:List Ch} (h:pG xs=true):iD xs=xs:=by unfold iD;rw [if_pos h]
theorem zPX {xs:List Nd} (h:jH 0 xs=true) (x:Nd):(addN xs x).2=0 -> jH 0 (addN xs x).1=true:=by
 unfold addN
 rw [zFS h]
 obtain ⟨h1,h2⟩:=(zBD 0 xs).1 h
 split
 ·intro e;cases e
 rename_i hx
 split
 ·intro e;cases e
 rename_i hb
 intro _
 have hxo:fZ x=true:=by
  cases q:fZ x
  ·rw [q] at hx;exact absurd rfl hx
  ·rfl
 refine (zBD _ _).2 ⟨?_,zEe h2 ⟨hxo,?_⟩ _⟩
 ·rw [zQD] at hb ⊢
  have:=zHa h1 x.1 (by rw [mC];simpa using hb)
  rw [mC] at this
  rw [gE,gE,List.map_take,List.map_drop]
  exact this
 ·unfold fZ btw at hxo
  simp only [kC,decide_eq_true_eq] at hxo
  omega
theorem zIS {α:Type} (f:α -> Int) (xs:List α) (p:Nat) (y:α) (hp:p<xs.length) (h:f y=f (xs[p]'hp)):(xs.set p y).map f=xs.map f:=by
 rw [List.map_set]
 have:f y=(xs.map f)[p]'(by rw [mC];exact hp):=by rw [List.getElem_map];exact h
 rw [this]
 exact List.set_getElem_self _
theorem zQQ {xs:List Nd} (h:jH 0 xs=true) (t s:Int):(zEb xs t s).2=0 -> jH 0 (zEb xs t s).1=true:=by
 unfold zEb
 rw [zFS h]
 obtain ⟨h1,h2⟩:=(zBD 0 xs).1 h
 split
 ·rename_i hb
  have hlt:=zGL hb
  generalize dG (nfn xs t) 0 xs.length=p at *
  rw [pB,rA hlt]
  have hm:=h2 _ (wC hlt)
  simp only [yD]
  split
  ·intro e;cases e
  rename_i hs
  split
  ·intro e;cases e
  intro _
  refine (zBD _ _).2 ⟨by have e:=zIS (fun x:Nd=>x.1) xs p ((xs[p]'hlt).1,(xs[p]'hlt).2.1,(xs[p]'hlt).2.2.1,s) hlt rfl;dsimp only at e ⊢;rw [e];exact h1,fun x hx => ?_⟩
  rcases rJ hx with q | rfl
  ·exact h2 x q
  ·refine ⟨?_,hm.2⟩
   have:=hm.1
   have hs':btw s 0 2=true:=by simpa using hs
   unfold fZ at this ⊢
   simp only [kC] at this ⊢
   exact ⟨this.1,hs'⟩
 ·intro e;cases e
theorem zAd (xs:List Ch):pG xs=true ↔ (∀ x ∈ xs,mW x=true)/\xs.length<=32/\(xs.map (·.1)).Pairwise (·<·)/\∀ x ∈ xs,1<=x.1/\x.1<=1048576:=by
 unfold pG
 simp only [kC,decide_eq_true_eq,List.all_eq_true,zBE,jJ]
 constructor
 ·rintro ⟨a,b,c,d⟩
  exact ⟨a,b,c,fun x hx=>d _ ⟨x,hx,rfl⟩⟩
 ·rintro ⟨a,b,c,d⟩
  refine ⟨a,b,c,?_⟩
  rintro y ⟨x,hx,rfl⟩
  exact d x hx
theorem zHS {xs:List Ch} (h:pG xs=true) (t s:Int):(vQ xs t s).2=0 -> pG (vQ xs t s).1=true:=by
 unfold vQ
 rw [zBw h]
 obtain ⟨h1,h2,h3,h4⟩:=(zAd xs).1 h
 split
 ·intro e;cases e
 rename_i ht
 split
 ·intro e;cases e
 rename_i hb
 split
 ·intro e;cases e
 rename_i hl
 intro _
 refine (zAd _).2 ⟨zEe h1 ?_ _,?_,?_,zEe h4 ?_ _⟩
 ·unfold mW;rfl
 ·simp only [List.length_append,List.length_take,List.length_drop,List.length_singleton];omega
 ·rw [zQh] at hb ⊢
  have:=zHa h3 t (by rw [mC];simpa using hb)
  rw [mC] at this
  rw [gE,gE,List.map_take,List.map_drop]
  exact this
 ·dsimp only;omega
theorem zAV {xs:List Ch} (h:pG xs=true) (f:Ch -> Ch × Int) (hf:∀ x,mW x=true -> (f x).2=0 -> (f x).1.1=x.1/\mW (f x).1=true) (t:Int):(tJ f xs t).2=0 -> pG (tJ f xs t).1=true:=by
 unfold tJ
 rw [zBw h]
 obtain ⟨h1,h2,h3,h4⟩:=(zAd xs).1 h
 split
 ·rename_i hb
  have hlt:=zGL hb
  generalize dG (cfn xs t) 0 xs.length=p at *
  rw [pB,rA hlt]
  simp only [yD]
  have hm:=wC hlt
  split
  ·rename_i he;intro e;exact absurd e he
  rename_i he
  intro _
  obtain ⟨e1,e2⟩:=hf _ (h1 _ hm) (by omega)
  refine (zAd _).2 ⟨fun x hx => ?_,by rw [List.length_set];exact h2,by rw [zIS (·.1) xs p _ hlt e1];exact h3,fun x hx => ?_⟩
  ·rcases rJ hx with q | rfl
   ·exact h1 x q
   ·exact e2
  ·rcases rJ hx with q | rfl
   ·exact h4 x q
   ·rw [e1];exact h4 _ hm
 ·intro e;cases e
theorem zT (x:Ch):mW x=true ↔ (1<=x.2.1/\x.2.1<=1073741824)/\x.2.2.2.Pairwise (·<·)/\∀ y ∈ x.2.2.2,1<=y/\y<=16:=by
 unfold mW
 simp only [kC,decide_eq_true_eq,zBE]
theorem zNl (s:Int) (x:Ch) (h:mW x=true):(vW s x).2=0 -> (vW s x).1.1=x.1/\mW (vW s x).1=true:=by
 unfold vW
 have h1:=(zT x).1 h
 split
 ·intro e;cases e
 ·intro _
  have:wrap64 (x.2.1+1)=x.2.1+1:=by simp only [wrap64];omega
  refine ⟨rfl,(zT _).2 ⟨?_,List.Pairwise.nil,fun y hy=>by cases hy⟩⟩
  dsimp only
  rw [this]
  omega
theorem zLJ (node ver:Int) (hn:1<=node/\node<=16) (x:Ch) (h:mW x=true):(zAX node ver x).2=0 -> (zAX node ver x).1.1=x.1/\mW (zAX node ver x).1=true:=by
 unfold zAX
 obtain ⟨h1,h2,h3⟩:=(zT x).1 h
 split
 ·intro e;cases e
 split
 ·intro e;cases e
 rename_i hb
 intro _
 exact ⟨rfl,(zT _).2 ⟨h1,zHa h2 node (by simpa using hb),zEe h3 hn _⟩⟩
theorem zJe (node:Int) (x:Ch) (h:mW x=true):(xM node x).2=0 -> (xM node x).1.1=x.1/\mW (xM node x).1=true:=by
 unfold xM
 obtain ⟨h1,h2,h3⟩:=(zT x).1 h
 split
 ·intro _
  refine ⟨rfl,(zT _).2 ⟨h1,?_⟩⟩
  dsimp only
  rw [<- List.eraseIdx_eq_take_drop_succ]
  exact ⟨h2.sublist (zAD _ _),fun y hy=>h3 y ((zAD _ _).subset hy)⟩
 ·intro e;cases e
theorem tZ {α:Type} {P:List α -> Prop} {e:Int} {new old:List α} (ho:P old) (hn:e=0 -> P new):P (jN e new old):=by
 unfold jN
 split
 ·exact hn (by assumption)
 ·exact ho
theorem zLB (K p q r : Int) {ns : List Nd} {cs : List Ch} (hn : jH 0 ns = true) (hc : pG cs = true) : jH 0 (iX K p q r ns cs).1 = true /\ pG (iX K p q r ns cs).2.1 = true := by
 unfold iX
 split
 ·exact ⟨tZ (P:=fun l=>jH 0 l=true) hn (zPX hn _),hc⟩
 split
 ·unfold zQP
  split
  ·exact ⟨hn,hc⟩
  ·exact ⟨tZ (P:=fun l=>jH 0 l=true) hn (zQQ hn _ _),hc⟩
 split
 ·unfold zBq
  split
  ·exact ⟨hn,hc⟩
  ·exact ⟨hn,tZ (P:=fun l=>pG l=true) hc (zHS hc _ _)⟩
 split
 ·unfold zBq
  split
  ·exact ⟨hn,hc⟩
  ·exact ⟨hn,tZ (P:=fun l=>pG l=true) hc (zAV hc _ (zNl _) _)⟩
 split
 ·unfold zGS
  split
  ·refine ⟨hn,tZ (P:=fun l=>pG l=true) hc ?_⟩
   unfold wS
   split
   ·intro e;cases e
   ·rename_i hq
    exact zAV hc _ (zLJ _ _ (by omega)) _
  ·exact ⟨hn,hc⟩
 ·exact ⟨hn,tZ (P:=fun l=>pG l=true) hc (zAV hc _ (zJe _) _)⟩
theorem zDn (K p q r:Int) {ns:List Nd} {cs:List Ch} (hn:jH 0 ns=true) (hc:pG cs=true):jH 0 (lT K p q r ns cs).1=true/\pG (lT K p q r ns cs).2.1=true:=by
 unfold lT
 split
 ·exact zLB K p q r hn hc
 ·exact ⟨hn,hc⟩
abbrev Wf (k:Int):Prop:=(cE .i64 k).wf=true
theorem Wf.mk {k:Int} (h:-9223372036854775808<=k) (h2:k<=9223372036854775807):Wf k:=by
 simp [Wf,Lit.wf,IntKind.min,IntKind.max,IntKind.signed,IntKind.bits]
 exact ⟨h,h2⟩
theorem Wf.sm {k:Int} (h:1<=k/\k<=1048576):Wf k:=Wf.mk (by omega) (by omega)
def zGC (o:Od):Prop:=Wf o.2.1/\Wf o.2.2.2.2.1/\Wf o.2.2.2.2.2.1
end Go.Proofs.YtogbpifcmhafkaaGreat
