/-
 Part PZB of the proof.
-/
import Derived.Test.YtogbpifcmhafkaaGreatPY
import Derived.StillTailTactics
open Go renaming Calls->iA,World->uA,wpList->yP
open Go.Lib renaming hid->fA
open Go.Lit renaming int->cE
open Go.RowKit renaming Hid->jC
open Go.Value renaming slice->zE
open List renaming getD_eq_getElem?_getD->pB,getElem?_eq_getElem->rA,length_set->lD,mem_singleton->xB
open Nat renaming le_refl->mA,le_succ->uE,le_trans->pA,lt_of_lt_of_le->tA,zero_le->vC
open Option renaming some->yA
open UInt8 renaming ofNat->wK
namespace Go.Proofs.YtogbpifcmhafkaaGreat
open Go.RowKit Tryz
open Go.Lib(hid)
set_option linter.unusedVariables false
set_option linter.unusedSimpArgs false
set_option maxRecDepth 100000
set_option maxHeartbeats 16000000
theorem zFr {w:uA} {ops:Array Oper} {rest:List Oper} {o:Oper} {a:Act} {Q:Exit -> Act -> uA -> Prop} (hgd:o.guard=none) (x k v:Operand)
  (hop:o.op=.mapUpdate 135 x k v) {M n:Nat} {f:Int -> Bool -> Value} {t:Int} {b:Bool} {u:Value} (hx:a.eval x=.map (yA M)) (hk:a.eval k=.agg #[t,.bool b]) (hv:a.eval v=u)
  (h:xN w M n f) (hw:(cE .i64 t).wf=true) (hl:n<maxLen) (hK:∀ w',xN w' M (n+1) (bI f t b u) -> fD [M] w w' -> yP prog ops Q rest (a.put o.dst undef) w'):yP prog ops Q (o :: rest) a w:=by
 refine wpList_plain hgd fun K' hK' => ?_
 obtain ⟨w',hrun,r1,r2⟩:=h.store hw b u hl
 unfold Oper.wp
 simp only [execOp,hop,hx,hk,hv,hrun,Sem.run_bind,Sem.run_pure,Result.andThen_ok]
 exact hK' _ _ (hK w' r1 r2)
theorem xN.drew {w:uA} {M n:Nat} {f:Int -> Bool -> Value} (h:xN w M n f):xN w.drew M n f:=h
section
variable {R:Nat -> Prop} {w w' w'':uA} {s:Nat} {L L' L'':SL} {v v' v'':Sv}
theorem qI.drew (h:qI R s L L' v' w w'):qI R s L L' v' w w'.drew:=⟨⟨h.at_.blk,⟨⟨h.at_.rl.1.row.drew,h.at_.rl.1.cap,h.at_.rl.1.none_,h.at_.rl.1.max⟩,h.at_.rl.2⟩,h.at_.mp,fun k b=>sI (h.at_.rows k b),h.at_.dis,h.at_.sm,h.at_.sr,h.at_.lt⟩,⟨h.chg.os,h.chg.tape,h.chg.output,h.chg.size,h.chg.block⟩,h.fr⟩
theorem qS.move (h : qS R w s L v) {t : Int} {n n' : Nat} (hc : fD [L.M] w w') (hp : xN w' L.M n (bI (fun k b => zE (L.g k b).1 (v.f k b).length (L.g k b).2) t false (.slice (L.g t true).1 (v.f t true).length (L.g t true).2)))
  (hc2:fD [L.M] w' w'') (hp2:xN w'' L.M n' (bI (bI (fun k b=>zE (L.g k b).1 (v.f k b).length (L.g k b).2) t false (.slice (L.g t true).1 (v.f t true).length (L.g t true).2)) t true (.slice none 0 0))) :
  qI R s L { L with n:=n',g:=bI (bI L.g t false (L.g t true)) t true (none,0) } { v with f:=bI (bI v.f t false (v.f t true)) t true [] } w w'':=by
 have hC:fD [L.M] w w'':=hc.trans hc2 (fun x hx=>.inl hx)
 have hsub:∀ k' b' x,x ∈ zB (bI (bI L.g t false (L.g t true)) t true (none,0) k' b').1 -> (k'=t/\b'=false/\x ∈ zB (L.g t true).1)\/(k'≠t/\x ∈ zB (L.g k' b').1):=fun k' b' x hx=>by
  unfold bI at hx
  split at hx
  ·simp [zB] at hx
  ·rename_i e1
   split at hx
   ·rename_i e
    exact .inl ⟨e.1,e.2,hx⟩
   ·rename_i e2
    refine .inr ⟨fun e => ?_,hx⟩
    subst e
    cases b'
    ·exact e2 ⟨rfl,rfl⟩
    ·exact e1 ⟨rfl,rfl⟩
 have hown:∀ x,({ L with n:=n',g:=bI (bI L.g t false (L.g t true)) t true (none,0) }:SL).own s x -> L.own s x:=fun x hx=>by
  rcases hx with q | q | ⟨k',b',q⟩
  ·exact .inl q
  ·exact .inr (.inl q)
  ·rcases hsub k' b' x q with q | q
   ·exact .inr (.inr ⟨t,true,q.2.2⟩)
   ·exact .inr (.inr ⟨k',b',q.2⟩)
 have hne:∀ x,x≠L.M -> x ∉ [L.M]:=fun x hx q=>hx (xB.1 q)
 refine ⟨⟨hC.keep h.blk (hne _ h.sm),⟨(h.rl.1.chg hC fun x hx=>hne x fun e=>(h.rl.2 x hx).2 (.inr (.inl e))),fun x hx=>⟨(h.rl.2 x hx).1,fun q=>(h.rl.2 x hx).2 (hown x q)⟩⟩,?_,fun k' b' => ?_,fun k' b' k2 b2 x h1 h2 => ?_,h.sm,fun k' b' x hx => ?_,fun x hx=>tA (h.lt x hx) hC.size⟩,cJ.of hC (fun x hx=>.inl (.inr (.inl (xB.1 hx)))),fun x hx=>.inl (hown x hx)⟩
 ·rw [zAo] at hp2
  have:=zAo (bI L.g t false (L.g t true)) (bI v.f t false (v.f t true)) t true none 0 []
  rw [<- this]
  exact hp2
 ·unfold bI
  by_cases e:k'=t/\b'=true
  ·simp only [if_pos e]
   exact World.ownsRow_nil _ _ _ _
  ·simp only [if_neg e]
   by_cases e2:k'=t/\b'=false
   ·simp only [if_pos e2]
    exact xE (h.rows t true) hC fun x hx=>hne x (h.sr t true x hx).2
   ·simp only [if_neg e2]
    exact xE (h.rows k' b') hC fun x hx=>hne x (h.sr k' b' x hx).2
 ·rcases hsub _ _ _ h1 with p | p <;> rcases hsub _ _ _ h2 with q | q
  ·exact ⟨p.1.trans q.1.symm,p.2.1.trans q.2.1.symm⟩
  ·exact absurd (h.dis _ _ _ _ x p.2.2 q.2).1.symm q.1
  ·exact absurd (h.dis _ _ _ _ x q.2.2 p.2).1.symm p.1
  ·exact h.dis _ _ _ _ x p.2 q.2
 ·rcases hsub _ _ _ hx with p | p
  ·exact h.sr t true x p.2.2
  ·exact h.sr k' b' x p.2
end
theorem zHO (xs:List Rp) (t v:Int):(zM xs t v).1.length<=xs.length+1:=by
 have hf:=jL xs
 unfold zM
 split
 ·split
  ·refine pA (zDe _ _) ?_
   simp only [List.length_append,List.length_take,List.length_drop]
   omega
  ·exact vC _
 ·exact vC _
theorem zHp (R:Nat -> Prop) (s:Nat) (L:SL) (v:Sv) (t ver:Int) (w:uA) (h:qS R w s L v) (ho:bH v) (hR:∀ x,w.heap.size<=x -> R x) (ht:(cE .i64 t).wf=true) (hn:L.n<1000000):iA prog 129 #[(s,0),t,ver] w (zDF R s L 1 w (.int .i64 (v.commit t ver).2) (v.commit t ver).1):=by
 have c1:=jA h.blk 1
 have HC:jC (∀ W,Below w.heap.size w W -> iA prog 215 #[.slice L.lA v.l.length L.lc,t,ver] W (zDm (zM v.l t ver) W)):=fA fun W hb=>zHN L.lA L.lc v.l t ver W (h.rl.1.below hb)
 have hl:=fA (show (zM v.l t ver).1.length<=1000000 from by have:=zHO v.l t ver;have:=ho.l;omega)
 have HT:=fA (fun W A n c e (hb:W.heap[s]?=yA (zQS v.room (.slice L.lA v.l.length L.lc) L.M))=>zCK s L.M v.room _ A n c e W hb)
 have HV:jC (v.commit t ver=if (zM v.l t ver).2=0 then ({ v with l:=(zM v.l t ver).1,f:=bI (bI v.f t false (v.f t true)) t true [] },0) else (v,(zM v.l t ver).2)):=fA rfl
 have HH:=fA h
 generalize zM v.l t ver=r at *
 obtain ⟨r1,r2⟩:=r
 simp only at hl HC HV
 clear h
 have HRV:=fA hR
 by_cases hr:r2=0
 ·subst hr
  have HV2:jC (v.commit t ver=({ v with l:=r1,f:=bI (bI v.f t false (v.f t true)) t true [] },0)):=fA (by rw [HV.out,if_pos rfl])
  clear HV
  go_enter func129,ntmps129
  go_wp2_with (first
   | (go_at_call 215;refine (HC.out _ (xC _)).mono ?_;rintro e w1 ⟨A,c,rfl,own1,hb1⟩;have st1:=fA (HH.out.setL HRV.out hb1 own1 hl.out);have g1:=kA hb1 HH.out.blk;have k2:=jA st1.out.at_.blk 2)
   | (go_at_call 188;refine (HT.out _ _ _ _ _ g1).mono ?_;rintro e w2 ⟨rfl,hw2⟩;rw [if_pos rfl] at hw2;subst hw2))
  go_upto_region 3 with fail
  generalize w1.setCell ⟨s,1,none⟩ (.slice A r1.length c)=W at *
  have hlk:=st1.out.drew.at_.mp.look ht true
  go_still_tail 13,(by kernel_rfl)
  show yP _ _ _ _ _ W.drew
  go_wp2_with (first
   | (at_mapUpdate;refine zFr rfl _ _ _ rfl rfl rfl rfl st1.out.drew.at_.mp ht (by unfold maxLen;dsimp only;omega) ?_;intro w3 hp3 hc3;have k3:=jA (hc3.keep st1.out.drew.at_.blk (fun q=>st1.out.at_.sm (xB.1 q))) 2)
   | (at_delete;refine zAr rfl _ _ rfl rfl rfl hp3 ht ?_;intro w4 hp4 hc4))
  go_ret
  rw [HV2.out]
  exact ⟨rfl,_,st1.out.drew.trans (st1.out.drew.at_.move hc3 hp3 hc4 hp4),mA _⟩
 ·have HV2:jC (v.commit t ver=(v,r2)):=fA (by rw [HV.out,if_neg hr])
  clear HV
  go_enter func129,ntmps129
  go_wp2_with (first
   | (go_at_call 215;refine (HC.out _ (xC _)).mono ?_;rintro e w1 ⟨A,c,rfl,own1,hb1⟩;have g1:=kA hb1 HH.out.blk)
   | (go_at_call 188;refine (HT.out _ _ _ _ _ g1).mono ?_;rintro e w2 ⟨rfl,hw2⟩;rw [if_neg hr] at hw2;subst hw2))
  go_ret
  rw [HV2.out]
  exact ⟨rfl,L,qI.refl HH.out hb1,uE _⟩
theorem zJs (xs : List Rp) (x : Rp) (room : Int) : (wO xs x room).1.length <= xs.length + 1 := by
 have hf:=jL xs
 unfold wO
 split
 ·exact vC _
 ·split
  ·exact vC _
  ·split
   ·exact vC _
   ·split
    ·exact vC _
    ·exact pA (zDe _ _) (by omega)
theorem zIZ (R : Nat -> Prop) (s : Nat) (L : SL) (v : Sv) (t ver sm : Int) (A : Option Addr) (c : Nat) (d : List UInt8) (w : uA) (h : qS R w s L v) (ho : bH v) (hR : ∀ x, w.heap.size <= x -> R x) (ht : (cE .i64 t).wf = true) (hn : L.n < 1000000) (hd : bJ w A d) (hz : A = none -> d.length = 0) (hdl : d.length <= 1000000) (hcs : ∀ x ∈ zB A, x ≠ s) :
  iA prog 128 #[(s,0),t,ver,.int .u32 sm,.slice A d.length c] w (zDF R s L 1 w (.int .i64 (v.begin t ver sm d).2) (v.begin t ver sm d).1):=by
 have c1:=jA h.blk 1
 have c0:=jA h.blk 0
 have HC:jC (∀ W,Below w.heap.size w W -> iA prog 214 #[.slice L.lA v.l.length L.lc,.agg #[t,ver,.int .u32 sm,.bool false,.bool false],.int .i64 v.room] W (zDm (wO v.l (t,ver,sm,false,false) v.room) W)):=fA fun W hb=>zJr L.lA L.lc v.l t ver sm v.room false false W (h.rl.1.below hb) (by have:=ho.l;omega)
 have HSM:=fA (zBG A c d w hd hdl)
 have HCL:=fA (fun W (hb:Below w.heap.size w W)=>tV A c d W (hd.below hb) hz hdl)
 have hl:=fA (show (wO v.l (t,ver,sm,false,false) v.room).1.length<=1000000 from by have:=zJs v.l (t,ver,sm,false,false) v.room;have:=ho.l;omega)
 have HT:=fA (fun W A n c e (hb:W.heap[s]?=yA (zQS v.room (.slice L.lA v.l.length L.lc) L.M))=>zCK s L.M v.room _ A n c e W hb)
 have HV:jC (v.begin t ver sm d=if 64<d.length then (v,7) else if U (sum d)≠sm then (v,4) else if (wO v.l (t,ver,sm,false,false) v.room).2=0 then ({ v with l:=(wO v.l (t,ver,sm,false,false) v.room).1,f:=bI v.f t true d },0) else (v,(wO v.l (t,ver,sm,false,false) v.room).2)):=fA rfl
 have HH:=fA h
 generalize wO v.l (t,ver,sm,false,false) v.room=r at *
 obtain ⟨r1,r2⟩:=r
 simp only at hl HC HV
 have hCD:=hd
 have hCs:=fA hcs
 clear h hd
 have HRV:=fA hR
 by_cases h64:64<d.length
 ·have h64i:(64:Int)<(d.length:Int):=by omega
  have HV2:jC (v.begin t ver sm d=(v,7)):=fA (by rw [HV.out,if_pos h64])
  go_enter func128,ntmps128
  go_wp2
  go_ret
  rw [HV2.out]
  exact ⟨rfl,L,qI.refl HH.out (xC _),uE _⟩
 ·have h64i:¬ (64:Int)<(d.length:Int):=by omega
  by_cases hs:U (sum d)=sm
  ·by_cases hr:r2=0
   ·subst hr
    have HV2:jC (v.begin t ver sm d=({ v with l:=r1,f:=bI v.f t true d },0)):=fA (by rw [HV.out,if_neg h64,if_neg (fun e=>e hs),if_pos rfl])
    clear HV
    go_enter func128,ntmps128
    go_wp2_with (go_at_call 32;refine HSM.out.mono ?_;rintro e w1 ⟨rfl,hb1⟩)
    have b1:Below w.heap.size w w1.drew:=⟨hb1.os,hb1.tape,hb1.output,hb1.size,hb1.block⟩
    have e0:=jA (kA b1 HH.out.blk) 0
    have e1:=jA (kA b1 HH.out.blk) 1
    refine iC (S:=fun V:uA=>V.cell? ⟨s,0,none⟩=yA (.int .i64 v.room)/\V.cell? ⟨s,1,none⟩=yA (.slice L.lA v.l.length L.lc)) [16,17] ⟨e0,e1⟩ fun hH => ?_
    refine gU [0,1,2,3,104,5,6,7,8,9,10,11,112] ?_
    refine oU 13 fun K hK => ?_
    go_simp
    go_at_call 214
    refine (HC.out _ b1).mono ?_
    rintro e w2 ⟨A2,c2,rfl,own2,hb2⟩
    have b2:=b1.trans (hb2.mono b1.size)
    have g2:=kA b2 HH.out.blk
    have k0:=jA g2 0
    have k1:=jA g2 1
    refine hK.out _ _ (⟨k0,k1⟩) fun hH => ?_
    clear hK K
    refine gU [14,15] ?_
    refine tU 16 fun K hK => ?_
    go_simp
    go_at_call 188
    refine (HT.out _ _ _ _ _ g2).mono ?_
    rintro e w3 ⟨rfl,hw3⟩
    refine hK.out _ _ ?_
    clear hK K
    refine tU 17 fun K hK => ?_
    go_simp
    refine hK.out _ _ ?_
    clear hK K
    refine gU [300] ?_
    rw [if_pos rfl] at hw3
    subst hw3
    have st1:=fA (HH.out.setL HRV.out b2 (oC own2 b1.size) hl.out)
    have hC3:=(fD.refl [s] w2).setCell (b:=s) (.inl (by simp)) 1 (.slice A2 r1.length c2)
    have hA2:=fA (fun x (hx:x ∈ zB A2)=>(qC own2 x hx).2)
    have hsz:(w2.setCell ⟨s,1,none⟩ (.slice A2 r1.length c2)).heap.size=w2.heap.size:=by simp [World.setCell]
    have HCD:=fA (hCD.below b2)
    have HSZ:=fA hsz
    clear hsz
    go_upto_region 7 with fail
    generalize w2.setCell ⟨s,1,none⟩ (.slice A2 r1.length c2)=W at *
    have k2:W.drew.cell? ⟨s,2,none⟩=yA (.map (yA L.M)):=jA st1.out.at_.blk 2
    refine iC (S:=fun V:uA=>V.cell? ⟨s,2,none⟩=yA (.map (yA L.M))) [8] k2 fun hH => ?_
    refine gU [0,1,2,103,4,5,6] ?_
    refine oU 7 fun K hK => ?_
    go_simp
    go_at_call 76
    refine (tV A c d _ ((HCD.out.chg hC3 (fun x hx q=>hCs.out x hx (xB.1 q))).drew) hz hdl).mono ?_
    rintro e w4 ⟨A4,c4,rfl,own4,hb4⟩
    have hb5:Below W.heap.size W w4:=⟨hb4.os,hb4.tape,hb4.output,hb4.size,hb4.block⟩
    have st4:=fA (qI.trans st1.out (qI.refl st1.out.at_ hb5))
    have k4:=jA st4.out.at_.blk 2
    refine hK.out _ _ (k4) fun hH => ?_
    clear hK K
    refine tU 8 fun K hK => ?_
    obtain ⟨w6,hrun,hp6,hc6⟩:=st4.out.at_.mp.store ht true (.slice A4 d.length c4) (by unfold maxLen;dsimp only;omega)
    go_simp
    refine hK.out _ _ ?_
    clear hK K
    refine gU [300] ?_
    go_wp2
    go_ret
    rw [HV2.out]
    have hx4:∀ x ∈ zB A4,W.heap.size<=x:=fun x hx=>(qC own4 x hx).1
    have hput:=st4.out.at_.put (oC own4 (vC _)) (B:=W.heap.size) (fun x hx=>⟨fun q => ?_,fun q => ?_⟩) hx4 hc6 hp6
    ·exact ⟨rfl,_,⟨hput.1,st4.out.chg.trans (cJ.of hc6 (fun x hx=>.inl (.inr (.inl (xB.1 hx))))) (fun x hx=>st4.out.fr x hx),fun x hx=>(hput.2 x hx).elim (fun q=>st4.out.fr x q) (fun q=>.inr (pA st1.out.chg.size q))⟩,mA _⟩
    ·have h1:=st1.out.at_.own_lt q;have h2:=hx4 x hx;omega
    ·have h1:=hA2.out x q;have h2:=hx4 x hx;have h3:=HSZ.out;omega
   ·have HV2:jC (v.begin t ver sm d=(v,r2)):=fA (by rw [HV.out,if_neg h64,if_neg (fun e=>e hs),if_neg hr])
    clear HV
    go_enter func128,ntmps128
    go_wp2_with (go_at_call 32;refine HSM.out.mono ?_;rintro e w1 ⟨rfl,hb1⟩)
    have b1:Below w.heap.size w w1.drew:=⟨hb1.os,hb1.tape,hb1.output,hb1.size,hb1.block⟩
    have e0:=jA (kA b1 HH.out.blk) 0
    have e1:=jA (kA b1 HH.out.blk) 1
    refine iC (S:=fun V:uA=>V.cell? ⟨s,0,none⟩=yA (.int .i64 v.room)/\V.cell? ⟨s,1,none⟩=yA (.slice L.lA v.l.length L.lc)) [16,17] ⟨e0,e1⟩ fun hH => ?_
    refine gU [0,1,2,3,104,5,6,7,8,9,10,11,112] ?_
    refine oU 13 fun K hK => ?_
    go_simp
    go_at_call 214
    refine (HC.out _ b1).mono ?_
    rintro e w2 ⟨A2,c2,rfl,own2,hb2⟩
    have b2:=b1.trans (hb2.mono b1.size)
    have g2:=kA b2 HH.out.blk
    have k0:=jA g2 0
    have k1:=jA g2 1
    refine hK.out _ _ (⟨k0,k1⟩) fun hH => ?_
    clear hK K
    refine gU [14,15] ?_
    refine tU 16 fun K hK => ?_
    go_simp
    go_at_call 188
    refine (HT.out _ _ _ _ _ g2).mono ?_
    rintro e w3 ⟨rfl,hw3⟩
    refine hK.out _ _ ?_
    clear hK K
    refine tU 17 fun K hK => ?_
    go_simp
    refine hK.out _ _ ?_
    clear hK K
    refine gU [300] ?_
    rw [if_neg hr] at hw3
    subst hw3
    go_wp2
    go_ret
    rw [HV2.out]
    exact ⟨rfl,L,qI.refl HH.out b2,uE _⟩
  ·have HV2:jC (v.begin t ver sm d=(v,4)):=fA (by rw [HV.out,if_neg h64,if_pos hs])
   go_enter func128,ntmps128
   go_wp2_with (go_at_call 32;refine HSM.out.mono ?_;rintro e w1 ⟨rfl,hb1⟩)
   go_ret
   rw [HV2.out]
   exact ⟨rfl,L,qI.refl HH.out hb1,uE _⟩
abbrev zPS (x1 x2 x3:Int) (x4 x5:Bool):Obj:=.cells #[x1,x2,.int .u32 x3,.bool x4,.bool x5] 124
theorem zLy (xs:List Rp) (t:Int):∀ x ∈ nE (eT t) (rD xs),x ∈ xs:=fun x hx=>by
 unfold nE at hx
 have h1:=(List.mem_filter.1 hx).1
 unfold rD at h1
 split at h1
 ·exact h1
 ·cases h1
theorem mZ {α:Type} {f:Int -> Bool -> α} {P:α -> Prop} (h:∀ k b,P (f k b)) {k:Int} {b:Bool} {u:α} (hu:P u):∀ k' b',P (bI f k b u k' b'):=fun k' b'=>by
 unfold bI
 split
 ·exact hu
 ·exact h k' b'
theorem bH.abort {v:Sv} (h:bH v) (t:Int):bH (v.abort t):=⟨h.room,by have:=List.length_filter_le (fun x => !eT t x) (rD v.l);have:=jL v.l;have:=h.l;unfold Sv.abort nE;dsimp only;omega,fun x hx=>h.ids x (zLy v.l t x hx),mZ (P:=fun d:List UInt8=>d.length<=64) h.f (by decide)⟩
def abortIf (v:Sv) (x:Rp):Sv:=if x.2.2.2.1 then v.abort x.1 else v
def Sv.restart (v:Sv):Sv:=v.l.foldl abortIf v
theorem bH.abortIf {v:Sv} (h:bH v) (x:Rp):bH (abortIf v x):=by
 unfold Go.Proofs.YtogbpifcmhafkaaGreat.abortIf
 split
 ·exact h.abort _
 ·exact h
theorem bH.fold {v:Sv} (h:bH v) (l:List Rp):bH (l.foldl Go.Proofs.YtogbpifcmhafkaaGreat.abortIf v):=by
 induction l generalizing v with
 | nil=>exact h
 | cons x l ih=>exact ih (h.abortIf x)
theorem qI.row {R:Nat -> Prop} {w w':uA} {s:Nat} {L L':SL} {v v':Sv} (st:qI R s L L' v' w w') {α:Type} {enc:α -> List Value} {A:Option Addr} {c:Nat} {xs:List α} (h:yB enc w A c xs) (hA:∀ x ∈ zB A,¬ L.own s x):yB enc w' A c xs:=by
 obtain ⟨S,hS,hC⟩:=st.chg.list
 exact h.chg hC fun x hx q=>hA x hx (hS x q).1
theorem zFx (R : Nat -> Prop) (s : Nat) (L : SL) (v : Sv) (w : uA) (h : qS R w s L v) (ho : bH v) (hR : ∀ x, w.heap.size <= x -> R x) : iA prog 69 #[(s,0)] w (zDF R s L 0 w (.tuple #[]) v.restart) := by
 have c1:=jA h.blk 1
 have hmx:=h.rl.1.max
 have HH:=fA h
 have HAB:=fA (fun (L':SL) (v':Sv) (t:Int) (W:uA) (h':qS R W s L' v') (ho':bH v') (hs:w.heap.size<=W.heap.size) (ht:(cE .i64 t).wf=true)=>zIY R s L' v' t W h' ho' (fun x hx=>hR x (pA hs hx)) ht)
 have HO:=fA ho
 have HFO:=fA (fun k=>ho.fold (v.l.take k))
 have HRS:jC (v.restart=v.l.foldl Go.Proofs.YtogbpifcmhafkaaGreat.abortIf v):=fA rfl
 have HRL:jC (∀ (L':SL) (v':Sv) (W:uA),qI R s L L' v' w W -> yB fJ W L.lA L.lc v.l):=fA fun L' v' W st=>st.row (v:=v) h.rl.1 (fun x hx=>(h.rl.2 x hx).2)
 clear h ho
 generalize hLA:L.lA=lA at c1 HRL
 clear hLA
 go_enter func69,ntmps69
 go_wp2
 go_loopw [3,9] (fun v3 i wr=>∃ (k:Nat) (L':SL),k<=v.l.length/\i=.int .i64 (k:Int)/\jC (qI R s L L' ((v.l.take k).foldl Go.Proofs.YtogbpifcmhafkaaGreat.abortIf v) w wr/\L'.n<=L.n)) (fun _ i _=>v.l.length - (intOf i).toNat)
 case atStart=>exact ⟨0,L,by omega,rfl,fA ⟨qI.refl HH.out (xC _),mA _⟩⟩
 case round =>
  obtain ⟨k,L',hk,rfl,HS⟩:=hrel
  have hk0:(0:Int)<=(k:Int):=by omega
  by_cases hlt:k<v.l.length
  ·have hk1:(k:Int)<(v.l.length:Int):=by omega
   have hwf:=fA (HO.out.ids _ (List.getElem_mem hlt))
   have hst:jC ((v.l.take (k+1)).foldl Go.Proofs.YtogbpifcmhafkaaGreat.abortIf v=abortIf ((v.l.take k).foldl Go.Proofs.YtogbpifcmhafkaaGreat.abortIf v) (v.l[k]'hlt)):=fA (by rw [List.take_succ_eq_append_getElem hlt,List.foldl_append];rfl)
   obtain ⟨b,off,rfl,blt,d0,d1,d2,d3,d4⟩:=rR (HRL.out _ _ _ HS.out.1) hlt
   generalize (v.l[k]'hlt)=x at *
   obtain ⟨x1,x2,x3,x4,x5⟩:=x
   simp only at d0 d1 d2 d3 d4 hwf
   have hal:=wA wr (zPS x1 x2 x3 x4 x5)
   obtain ⟨g0,g1,g2,g3,g4,_⟩:=yG (rB wr (zPS x1 x2 x3 x4 x5))
   have HS2:jC (qI R s L L' ((v.l.take k).foldl Go.Proofs.YtogbpifcmhafkaaGreat.abortIf v) w (wr.alloc (zPS x1 x2 x3 x4 x5))/\L'.n<=L.n):=fA ⟨HS.out.1.trans (qI.refl HS.out.1.at_ hal),HS.out.2⟩
   cases x4
   ·have hs2:jC ((v.l.take (k+1)).foldl Go.Proofs.YtogbpifcmhafkaaGreat.abortIf v=(v.l.take k).foldl Go.Proofs.YtogbpifcmhafkaaGreat.abortIf v):=fA (by rw [hst.out];rfl)
    clear HS hst
    go_wp2
    go_roundw
    case rel=>exact ⟨k+1,L',by omega,by go_num,fA (by rw [hs2.out];exact HS2.out)⟩
    case measure=>simp [intOf];omega
   ·have hs2:jC ((v.l.take (k+1)).foldl Go.Proofs.YtogbpifcmhafkaaGreat.abortIf v=((v.l.take k).foldl Go.Proofs.YtogbpifcmhafkaaGreat.abortIf v).abort x1):=fA (by rw [hst.out];rfl)
    have HC:=fA (HAB.out L' _ x1 _ HS2.out.1.at_ (HFO.out k) HS2.out.1.chg.size hwf.out)
    clear HS hst
    go_wp2_with (go_at_call 142;refine HC.out.mono ?_;rintro e w3 ⟨rfl,L3,hst3,hn3⟩)
    go_roundw
    case rel=>exact ⟨k+1,L3,by omega,by go_num,fA (by rw [hs2.out];exact ⟨HS2.out.1.trans hst3,by have:=HS2.out.2;omega⟩)⟩
    case measure=>simp [intOf];omega
  ·have hk1:¬ (k:Int)<(v.l.length:Int):=by omega
   have hke:k=v.l.length:=by omega
   have hs2:jC ((v.l.take k).foldl Go.Proofs.YtogbpifcmhafkaaGreat.abortIf v=v.restart):=fA (by rw [HRS.out,hke,List.take_length])
   go_wp2
   go_end0
   rw [hs2.out] at HS
   exact ⟨rfl,L',HS.out.1,HS.out.2⟩
section
variable {R:Nat -> Prop} {w w' w'':uA} {s:Nat} {L L' L'':SL} {v v' v'':Sv}
theorem qS.flip (h:qS R w s L v) {t:Int} {gg c:Nat} (hg:L.g t false=(yA ⟨gg,0,none⟩,c)) (j:Nat) (b:UInt8):qI R s L L { v with f:=bI v.f t false ((v.f t false).set j b) } w (w.setCell ⟨gg,j,none⟩ (pI b)):=by
 have hog:gg ∈ zB (L.g t false).1:=by rw [hg];simp [zB]
 have hown:L.own s gg:=.inr (.inr ⟨t,false,hog⟩)
 have hne:=h.sr t false gg hog
 have hc:fD [gg] w (w.setCell ⟨gg,j,none⟩ (pI b)):=(fD.refl [gg] w).setCell (.inl (by simp)) j _
 have hn:∀ x,x≠gg -> x ∉ [gg]:=fun x hx q=>hx (xB.1 q)
 refine ⟨⟨hc.keep h.blk (hn _ (Ne.symm hne.1)),⟨h.rl.1.chg hc fun x hx=>hn x fun e=>(h.rl.2 x hx).2 (e ▸ hown),h.rl.2⟩,?_,fun k' b' => ?_,h.dis,h.sm,h.sr,fun x hx=>tA (h.lt x hx) hc.size⟩,cJ.of hc (fun x hx=>.inl (xB.1 hx ▸ hown)),fun x hx=>.inl hx⟩
 ·have e:(fun k b'=>zE (L.g k b').1 ((bI v.f t false ((v.f t false).set j b)) k b').length (L.g k b').2)=fun k b'=>zE (L.g k b').1 (v.f k b').length (L.g k b').2:=by
   funext k b'
   unfold bI
   split
   ·rename_i e;rw [lD,e.1,e.2]
   ·rfl
  dsimp only
  rw [e]
  exact h.mp.chg hc (hn _ (Ne.symm hne.2))
 ·have hr:=h.rows k' b'
  unfold bI
  by_cases e:k'=t/\b'=false
  ·simp only [if_pos e,lD]
   rw [e.1,e.2] at hr ⊢
   rw [hg] at hr ⊢
   have:=zGq hr j (pI b)
   rw [List.map_set]
   exact this
  ·simp only [if_neg e]
   exact xE hr hc fun x hx=>hn x fun q=>e (h.dis _ _ _ _ x hx (q ▸ hog))
end
def Sv.spoil (v:Sv) (t bit:Int):Sv × Int :=
 if (v.f t false).length=0 then (v,5)
 else ({ v with f:=bI v.f t false ((v.f t false).set (((max bit 0).tmod (8 * ((v.f t false).length:Int))).toNat / 8) ((v.f t false).getD (((max bit 0).tmod (8 * ((v.f t false).length:Int))).toNat / 8) 0 ^^^ wK (2 ^ (((max bit 0).tmod (8 * ((v.f t false).length:Int))).toNat % 8)))) },0)
theorem zJb (R:Nat -> Prop) (s:Nat) (L:SL) (v:Sv) (t bit:Int) (w:uA) (h:qS R w s L v) (ho:bH v) (ht:(cE .i64 t).wf=true):iA prog 71 #[(s,0),t,bit] w (zDF R s L 0 w (.int .i64 (v.spoil t bit).2) (v.spoil t bit).1):=by
 have c2:=jA h.blk 2
 have hlk:=h.mp.look ht false
 have hf:=ho.f t false
 have HH:=fA h
 by_cases hz:(v.f t false).length=0
 ·have hz1:((v.f t false).length:Int)=0:=by omega
  have HV:jC (v.spoil t bit=(v,5)):=fA (by unfold Sv.spoil;rw [if_pos hz])
  clear h
  go_enter func71,ntmps71
  go_wp2
  go_ret
  rw [HV.out]
  exact ⟨rfl,L,qI.refl HH.out (xC _),mA _⟩
 ·have hz1:¬ ((v.f t false).length:Int)=0:=by omega
  have hrow:=h.rows t false
  obtain ⟨q,hq⟩:∃ q:Nat,(max bit 0).tmod (8 * ((v.f t false).length:Int))=(q:Int):=⟨((max bit 0).tmod (8 * ((v.f t false).length:Int))).toNat,by have:=Int.tmod_nonneg (8 * ((v.f t false).length:Int)) (show 0<=max bit 0 by omega);omega⟩
  have hql:q<8 * (v.f t false).length:=by have:=Int.tmod_lt_of_pos (max bit 0) (show (0:Int)<8 * ((v.f t false).length:Int) by omega);omega
  have HV:jC (v.spoil t bit=({ v with f:=bI v.f t false ((v.f t false).set (q / 8) ((v.f t false).getD (q / 8) 0 ^^^ wK (2 ^ (q % 8)))) },0)):=fA (by unfold Sv.spoil;rw [if_neg hz,hq,Int.toNat_natCast])
  have HFL:jC (∀ gg c,L.g t false=(yA ⟨gg,0,none⟩,c) -> ∀ j b,qI R s L L { v with f:=bI v.f t false ((v.f t false).set j b) } w (w.setCell ⟨gg,j,none⟩ (pI b))):=fA fun gg c e j b=>h.flip e j b
  generalize hbs:v.f t false=bs at *
  generalize hgg:L.g t false=g at *
  obtain ⟨A,c⟩:=g
  rcases hrow.2 with ⟨h2,_⟩ | ⟨gg,cap,cur,hv,hg,hh,hr⟩
  ·injection h2 with _ h3
   exact absurd h3 hz
  ·have hAe:A=yA ⟨gg,0,none⟩:=by injection hv
   subst hAe
   have HS:=fA (HFL.out gg c rfl)
   have hw8:IntKind.i64.wrap (8 * (bs.length:Int))=8 * (bs.length:Int):=oH (by omega) (by omega)
   have hqd:(q:Int).tdiv 8=((q / 8:Nat):Int):=rfl
   have hqm:(q:Int).tmod 8=((q % 8:Nat):Int):=rfl
   clear h hgg HFL hv
   go_enter func71,ntmps71
   go_wp2
   generalize hQ:q / 8=j at *
   generalize hM:q % 8=m at *
   have hj:j<bs.length:=by omega
   have hm:m<8:=by omega
   have hwj:IntKind.i64.wrap (j:Int)=(j:Int):=oH (by omega) (by omega)
   have hwm:IntKind.i64.wrap (m:Int)=(m:Int):=oH (by omega) (by omega)
   have hj1:(j:Int)<(bs.length:Int):=by omega
   have hcell:w.cell? ⟨gg,j,none⟩=yA (.int .u8 ((bs.getD j 0).toNat:Int)):=mH hrow (by rw [List.getElem?_map,rA hj,pB,rA hj];rfl)
   have hfz:=mG hrow j
   have hfl:bits .xor .u8 ((bs.getD j 0).toNat:Int) (IntKind.u8.wrap (2 ^ m))=((bs.getD j 0 ^^^ wK (2 ^ m)).toNat:Int):=zFW _ _
   have HFL:=fA hfl
   clear hQ hM
   go_still_tail 9,(by kernel_rfl)
   show yP _ _ _ _ _ w.drew
   go_wp2
   go_ret
   rw [HV.out]
   refine ⟨rfl,L,?_,mA _⟩
   have e:∀ x:UInt8,x=bs.getD j 0 -> Value.int .u8 (bits .xor .u8 (x.toNat:Int) (2 ^ m % 256))=pI (bs.getD j 0 ^^^ wK (2 ^ m)):=fun x hx=>by rw [zFW,hx];rfl
   rw [e _ (by simp [pB,hj])]
   exact (HS.out j (bs.getD j 0 ^^^ wK (2 ^ m))).drew
end Go.Proofs.YtogbpifcmhafkaaGreat
