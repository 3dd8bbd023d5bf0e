/-
 Part PZF of the proof.
-/
import Derived.Test.YtogbpifcmhafkaaGreatPY
import Derived.Test.YtogbpifcmhafkaaGreatPZC
import Derived.StillTailTactics
open And renaming intro->gG
open Go renaming Addr->mB,Value->uB,World->uA,undef->vB
open Go.Exit renaming jump->vP
open Go.Lib renaming hid->fA
open Go.RowKit renaming Hid->jC
open Go.RowKit.Below renaming refl->cC
open Go.Value renaming oneCell'->qE,slice->zE
open Go.World renaming cell?_setCell_far->oE,size_alloc->wB
open Go.World.ownsMap renaming store->rM
open List renaming getD_eq_getElem?_getD->pB,getElem?_eq_getElem->rA,length_append->kB,length_set->lD,mem_cons->pE,mem_singleton->xB
open Nat renaming le_refl->mA,le_trans->pA,lt_of_lt_of_le->tA
open Option renaming some->yA
namespace Go.Proofs.YtogbpifcmhafkaaGreat
open Go.RowKit Tryz
open Go.Lib(hid)
set_option linter.unusedVariables false
set_option linter.unusedSimpArgs false
set_option maxRecDepth 100000
set_option maxHeartbeats 16000000
section
open Go.Maps (Keyed)
structure zHu where
 s:Sv
 up:Bool
structure Cl where
 ns:List Nd
 cs:List Ch
 bs:List Bt
 ls:List Le
 ds:List Od
 r:Ru
 t:Int
 h:Int -> Option zHu
 net:List Od
structure CL where
 nA:Option mB
 nc:Nat
 cA:Option mB
 cc:Nat
 bA:Option mB
 bc:Nat
 lA:Option mB
 lc:Nat
 dA:Option mB
 dc:Nat
 M:Nat
 q:Nat
 hb:Int -> Option (Nat × Nat × SL)
 eA:Option mB
 ec:Nat
def hkey (o:Option (Nat × Nat × SL)):uB:=match o with
 | none=>.pointer none
 | some a=>.pointer (yA ⟨a.1,0,none⟩)
def sX (w:uA) (M n:Nat) (f:Int -> uB):Prop:=∃ l:List (Int × uB),uH w M n l/\∀ k,(yT l k).getD (.pointer none)=f k
def eH {α:Type} (f:Int -> α) (k:Int) (u:α):Int -> α:=fun k'=>if k'=k then u else f k'
theorem sX.made (w:uA):sX (w.alloc (.map #[] 0)) w.heap.size 0 (fun _=>.pointer none):=⟨[],uH.made w,fun _=>rfl⟩
theorem sX.lt {w:uA} {M n:Nat} {f:Int -> uB} (h:sX w M n f):M<w.heap.size:=by obtain ⟨l,h,_⟩:=h;exact h.lt
theorem sX.chg {S:List Nat} {w w':uA} {M n:Nat} {f:Int -> uB} (h:sX w M n f) (hc:fD S w w') (hne:M ∉ S):sX w' M n f:=by obtain ⟨l,h,h2⟩:=h;exact ⟨l,h.chg hc hne,h2⟩
theorem sX.below {w w':uA} {M n:Nat} {f:Int -> uB} (h:sX w M n f) (hb:Below w.heap.size w w'):sX w' M n f:=h.chg (fD.of_below hb:fD [] w w') (by simp)
theorem sX.look {w:uA} {M n:Nat} {f:Int -> uB} (h:sX w M n f) {k:Int} (hw:(Lit.int .i64 k).wf=true) :
  (Instr.lookup 46 (.map (yA M)) (.int .i64 k) false).run prog w=.ok (f k) w:=by
 obtain ⟨l,h,h2⟩:=h
 rw [h.look underlying46 (z:=.pointer none) (by kernel_rfl) k hw,h2 k]
theorem sX.store {w:uA} {M n:Nat} {f:Int -> uB} (h:sX w M n f) {k:Int} (hw:(Lit.int .i64 k).wf=true) (u:uB) (hn:n<maxLen) :
  ∃ w',(Instr.mapUpdate 46 (.map (yA M)) (.int .i64 k) u).run prog w=.ok () w'/\sX w' M (n+1) (eH f k u)/\fD [M] w w':=by
 obtain ⟨l,h,h2⟩:=h
 obtain ⟨w',hrun,h3,h4⟩:=rM h zDu underlying46 hn (zBA hw) (val:=u) (d:=.held u) (ps:=[]) rfl
 refine ⟨w',hrun,⟨(k,u) :: l,h3,fun k' => ?_⟩,qP h4⟩
 unfold yT eH
 by_cases e:k=k'
 ·rw [if_pos e,if_pos e.symm];rfl
 ·rw [if_neg e,if_neg (Ne.symm e)];exact h2 k'
def CL.own (C:Nat) (L:CL) (x:Nat):Prop:=x=C\/x=L.M\/x ∈ zB L.eA\/∃ k H s S,L.hb k=yA (H,s,S)/\(x=H\/S.own s x)
abbrev zNm (m0 m1 s0 s1 s2:uB) (r:Ru) (t:Int) (M:Nat) (e:uB):Obj:=.cells #[m0,m1,.slice none 0 0,s0,s1,s2,r.1,r.2.1,r.2.2.1,r.2.2.2.1,r.2.2.2.2.1,r.2.2.2.2.2,t,.map (yA M),e] 58
def CL.rd (R:Nat -> Prop) (w:uA) (C:Nat) (L:CL) (x:Nat):Prop:=R x/\¬ L.own C x/\x<w.heap.size
structure iG (R:Nat -> Prop) (w:uA) (C:Nat) (L:CL) (c:Cl):Prop where
 blk:w.heap[C]?=yA (zNm (.slice L.nA c.ns.length L.nc) (.slice L.cA c.cs.length L.cc) (.slice L.bA c.bs.length L.bc) (.slice L.lA c.ls.length L.lc) (.slice L.dA c.ds.length L.dc) c.r c.t L.M (.slice L.eA c.net.length L.ec))
 rn:vS (L.rd R w C) qH w L.nA L.nc c.ns
 rc:zCj (L.rd R w C) w L.cA L.cc c.cs
 rb:vS (L.rd R w C) zU w L.bA L.bc c.bs
 rl:vS (L.rd R w C) vU w L.lA L.lc c.ls
 rd:vS (L.rd R w C) qL w L.dA L.dc c.ds
 mp:sX w L.M L.q (fun k=>hkey (L.hb k))
 hn:∀ k,L.hb k=none ↔ c.h k=none
 ho:∀ k H s S v,L.hb k=yA (H,s,S) -> c.h k=yA v -> w.heap[H]?=yA (.cells #[(s,0),.bool v.up] 73)/\qS (fun x=>R x/\¬ L.own C x) w s S v.s
 ne:w.ownsRow 0 105 7 (.slice L.eA c.net.length L.ec) c.net.length (flat qL c.net)
 cm:C≠L.M
 ce:∀ x ∈ zB L.eA,x≠C/\x≠L.M
 ch:∀ k H s S,L.hb k=yA (H,s,S) -> H≠C/\H≠L.M/\H ∉ zB L.eA/\¬ S.own s H/\∀ x,S.own s x -> x≠C/\x≠L.M/\x ∉ zB L.eA
 hh:∀ k H s S k' H' s' S',L.hb k=yA (H,s,S) -> L.hb k'=yA (H',s',S') -> k≠k' -> H≠H'/\¬ S'.own s' H/\¬ S.own s H'/\∀ x,S.own s x -> ¬ S'.own s' x
structure rC (R:Nat -> Prop) (C:Nat) (L L':CL) (c':Cl) (w w':uA):Prop where
 at_:iG R w' C L' c'
 chg:cJ (L.own C) w w'
 fr:∀ x,L'.own C x -> L.own C x\/w.heap.size<=x
section
variable {R:Nat -> Prop} {w w' w'':uA} {C:Nat} {L L' L'':CL} {c c' c'':Cl}
theorem iG.own_lt (h:iG R w C L c) {x:Nat} (hx:L.own C x):x<w.heap.size:=by
 rcases hx with rfl | rfl | hx | ⟨k,H,s,S,hk,hx⟩
 ·exact eB h.blk
 ·exact h.mp.lt
 ·exact (qC h.ne x hx).2
 ·cases hv:c.h k with
  | none=>rw [(h.hn k).2 hv] at hk;cases hk
  | some v =>
   obtain ⟨h1,h2⟩:=h.ho k H s S v hk hv
   rcases hx with rfl | hx
   ·exact eB h1
   ·exact h2.own_lt hx
theorem zAh (hs:w.heap.size<=w'.heap.size) {x:Nat} (h:L.rd R w C x):L.rd R w' C x:=⟨h.1,h.2.1,tA h.2.2 hs⟩
theorem iG.out {S:Nat -> Prop} (h:iG R w C L c) (hc:cJ S w w') (hS:∀ x,S x -> ¬ R x/\¬ L.own C x):iG R w' C L c:=by
 obtain ⟨T,hT,hC⟩:=hc.list
 have hno:∀ x,L.own C x -> x ∉ T:=fun x hx q=>(hS x (hT x q).1).2 hx
 have hrd:∀ x,L.rd R w C x -> x ∉ T:=fun x hx q=>(hS x (hT x q).1).1 hx.1
 have hm:∀ x,L.rd R w C x -> L.rd R w' C x:=fun x=>zAh hC.size
 refine ⟨hC.keep h.blk (hno _ (.inl rfl)),(h.rn.chg hC hrd).mono hm,(h.rc.chg hC hrd).mono hm,(h.rb.chg hC hrd).mono hm,(h.rl.chg hC hrd).mono hm,(h.rd.chg hC hrd).mono hm,h.mp.chg hC (hno _ (.inr (.inl rfl))),h.hn,fun k H s S' v hk hv => ?_,xE h.ne hC (fun x hx=>hno x (.inr (.inr (.inl hx)))),h.cm,h.ce,h.ch,h.hh⟩
 obtain ⟨h1,h2⟩:=h.ho k H s S' v hk hv
 exact ⟨hC.keep h1 (hno _ (.inr (.inr (.inr ⟨k,H,s,S',hk,.inl rfl⟩)))),h2.out hc fun x hx=>⟨fun q=>(hS x hx).1 q.1,fun q=>(hS x hx).2 (.inr (.inr (.inr ⟨k,H,s,S',hk,.inr q⟩)))⟩⟩
theorem iG.below (h:iG R w C L c) (hb:Below w.heap.size w w'):iG R w' C L c:=h.out (S:=fun _=>False) (cJ.below hb) (fun x hx=>hx.elim)
theorem rC.refl (h:iG R w C L c) (hb:Below w.heap.size w w'):rC R C L L c w w':=⟨h.below hb,cJ.below hb,fun x hx=>.inl hx⟩
theorem rC.trans (h:rC R C L L' c' w w') (k:rC R C L' L'' c'' w' w''):rC R C L L'' c'' w w'' :=
 ⟨k.at_,h.chg.trans k.chg h.fr,fun x hx=>by
  rcases k.fr x hx with q | q
  ·exact h.fr x q
  ·exact .inr (pA h.chg.size q)⟩
end
end
def iQ (xs:List Ne) (i j:Nat):List Ne:=(xs.set i (xs.getD j (0,0,0))).set j (xs.getD i (0,0,0))
theorem tP (xs:List Ne) (i j:Nat):(iQ xs i j).length=xs.length:=by unfold iQ;simp
def zHs:Nat -> List Ne -> Nat -> List Ne
 | 0,xs,_=>xs
 | f+1,xs,i=>if 0<i/\dZ (xs.getD i (0,0,0)) (xs.getD ((i - 1) / 2) (0,0,0))<0 then zHs f (iQ xs i ((i - 1) / 2)) ((i - 1) / 2) else xs
theorem zPM (f:Nat) {xs:List Ne} {i:Nat} (h:¬ (0<i/\dZ (xs.getD i (0,0,0)) (xs.getD ((i - 1) / 2) (0,0,0))<0)):zHs f xs i=xs:=by
 cases f with
 | zero=>rfl
 | succ f=>unfold zHs;rw [if_neg h]
theorem zRR {f:Nat} {xs:List Ne} {i:Nat} (hf:i<=f) (h:0<i/\dZ (xs.getD i (0,0,0)) (xs.getD ((i - 1) / 2) (0,0,0))<0):zHs f xs i=zHs (f - 1) (iQ xs i ((i - 1) / 2)) ((i - 1) / 2):=by
 match f,hf with
 | 0,hf=>omega
 | f+1,hf=>rw [zHs,if_pos h];rfl
structure yN (w:uA) (Q base:Nat) (A:Option mB) (c:Nat) (xs:List Ne):Prop where
 blk:w.heap[Q]?=yA (.cells #[.slice A xs.length c,.func (.func 239) #[] #[]] 335)
 row:w.ownsRow base 258 3 (.slice A xs.length c) xs.length (flat zDO xs)
 far:Q ∉ zB A
 base:base<=Q
theorem zBh {w:uA} {base:Nat} {e:TypeId} {size:Nat} {A:Option mB} {n cap:Nat} {xs:List uB} (h:w.ownsRow base e size (.slice A n cap) n xs) (hn:0<n):∃ g,A=yA ⟨g,0,none⟩:=by
 rcases h.2 with ⟨_,h⟩ | ⟨g,c,cur,hv,_⟩
 ·omega
 ·injection hv with e1 _ _;exact ⟨g,e1⟩
theorem yN.many {w:uA} {Q base:Nat} {A:Option mB} {c:Nat} {xs:List Ne} (h:yN w Q base A c xs) (k:Nat):yN (w.drewN k) Q base A c xs:=⟨h.blk,h.row,h.far,h.base⟩
theorem yN.below {w w':uA} {Q base:Nat} {A:Option mB} {c:Nat} {xs:List Ne} (h:yN w Q base A c xs) (hb:Below w.heap.size w w'):yN w' Q base A c xs:=⟨kA hb h.blk,jB h.row hb,h.far,h.base⟩
def zFD (Q base n:Nat) (A:Option mB) (c:Nat) (g:Nat -> List Ne -> Nat -> List Ne) (out:List Ne) (w:uA) (a':Act) (wr:uA):Prop :=
 ∃ (i f:Nat) (xs:List Ne) (u:Nat -> uB),jC (xs.length=n)/\(i<n/\i<=f)/\jC (g f xs i=out)/\jC (yN wr Q base A c xs)/\Below base w wr/\a'={ tmps:=#[.pointer (yA ⟨Q,0,none⟩),vB,.int .i64 (i:Int),u 3,u 4,u 5,u 6,u 7,u 8,u 9,u 10,u 11,u 12,u 13,u 14,u 15,u 16,u 17,u 18,u 19,u 20,u 21,u 22,u 23,u 24,u 25,u 26,u 27,u 28,u 29,u 30,u 31,u 32,u 33,u 34,u 35,u 36,u 37,u 38,u 39,u 40,u 41,u 42,u 43,u 44,u 45,u 46,u 47,u 48,u 49,u 50,u 51,u 52,u 53,u 54,u 55,u 56,u 57,u 58,u 59,u 60,u 61,u 62],defers:=[] }
theorem zFD.mk {Q base n:Nat} {A:Option mB} {c:Nat} {g:Nat -> List Ne -> Nat -> List Ne} {out:List Ne} {w:uA} {a':Act} {wr:uA} {i f:Nat} {xs:List Ne} (h1:xs.length=n) (h2:(i<n/\i<=f)) (h3:g f xs i=out) (h4:yN wr Q base A c xs) (h5:Below base w wr)
  (h6:a'={ tmps:=#[.pointer (yA ⟨Q,0,none⟩),vB,.int .i64 (i:Int),a'.tmps.getD 3 vB,a'.tmps.getD 4 vB,a'.tmps.getD 5 vB,a'.tmps.getD 6 vB,a'.tmps.getD 7 vB,a'.tmps.getD 8 vB,a'.tmps.getD 9 vB,a'.tmps.getD 10 vB,a'.tmps.getD 11 vB,a'.tmps.getD 12 vB,a'.tmps.getD 13 vB,a'.tmps.getD 14 vB,a'.tmps.getD 15 vB,a'.tmps.getD 16 vB,a'.tmps.getD 17 vB,a'.tmps.getD 18 vB,a'.tmps.getD 19 vB,a'.tmps.getD 20 vB,a'.tmps.getD 21 vB,a'.tmps.getD 22 vB,a'.tmps.getD 23 vB,a'.tmps.getD 24 vB,a'.tmps.getD 25 vB,a'.tmps.getD 26 vB,a'.tmps.getD 27 vB,a'.tmps.getD 28 vB,a'.tmps.getD 29 vB,a'.tmps.getD 30 vB,a'.tmps.getD 31 vB,a'.tmps.getD 32 vB,a'.tmps.getD 33 vB,a'.tmps.getD 34 vB,a'.tmps.getD 35 vB,a'.tmps.getD 36 vB,a'.tmps.getD 37 vB,a'.tmps.getD 38 vB,a'.tmps.getD 39 vB,a'.tmps.getD 40 vB,a'.tmps.getD 41 vB,a'.tmps.getD 42 vB,a'.tmps.getD 43 vB,a'.tmps.getD 44 vB,a'.tmps.getD 45 vB,a'.tmps.getD 46 vB,a'.tmps.getD 47 vB,a'.tmps.getD 48 vB,a'.tmps.getD 49 vB,a'.tmps.getD 50 vB,a'.tmps.getD 51 vB,a'.tmps.getD 52 vB,a'.tmps.getD 53 vB,a'.tmps.getD 54 vB,a'.tmps.getD 55 vB,a'.tmps.getD 56 vB,a'.tmps.getD 57 vB,a'.tmps.getD 58 vB,a'.tmps.getD 59 vB,a'.tmps.getD 60 vB,a'.tmps.getD 61 vB,a'.tmps.getD 62 vB],defers:=[] }):zFD Q base n A c g out w a' wr:=⟨i,f,xs,fun k=>a'.tmps.getD k vB,h1,h2,h3,h4,h5,h6⟩
theorem jY {w:uA} {base:Nat} {g n c:Nat} {xs:List Ne} (h:w.ownsRow base 258 3 (.slice (yA ⟨g,0,none⟩) n c) n (flat zDO xs)) {i:Nat} (hi:i<xs.length):w.cell? ⟨g,i * 3,none⟩=yA (.int .i64 (xs[i]'hi).1)/\w.cell? ⟨g,i * 3+1,none⟩=yA (.int .i64 (xs[i]'hi).2.1)/\w.cell? ⟨g,i * 3+2,none⟩=yA (.int .i64 (xs[i]'hi).2.2):=by
 have q:∀ j u,j<3 -> (zDO (xs[i]'hi))[j]?=yA u -> w.cell? ⟨g,i * 3+j,none⟩=yA u:=fun j u hj hu=>mH h (by rw [tK zCE hi hj];exact hu)
 exact ⟨q 0 _ (by decide) rfl,q 1 _ (by decide) rfl,q 2 _ (by decide) rfl⟩
theorem sw_eq (w:uA) (g i j:Nat) (x1 x2 x3 y1 y2 y3:Int):((w.setCells g (i * 3) (zDO (y1,y2,y3))).setCells g (j * 3) (zDO (x1,x2,x3)))=((((((w.setCell ⟨g,i * 3,none⟩ (.int .i64 y1)).setCell ⟨g,i * 3+1,none⟩ (.int .i64 y2)).setCell ⟨g,i * 3+2,none⟩ (.int .i64 y3)).setCell ⟨g,j * 3,none⟩ (.int .i64 x1)).setCell ⟨g,j * 3+1,none⟩ (.int .i64 x2)).setCell ⟨g,j * 3+2,none⟩ (.int .i64 x3)):=by
 unfold zDO
 simp only [World.setCells,Nat.add_assoc]
theorem zPD {w:uA} {base g n c:Nat} {ys:List Ne} (h:w.ownsRow base 258 3 (.slice (yA ⟨g,0,none⟩) n c) n (flat zDO ys)) (hn:ys.length=n) {i j:Nat} (hi:i<ys.length) (hj:j<ys.length) (x1 x2 x3 y1 y2 y3:Int):(((((((w.setCell ⟨g,i * 3,none⟩ (.int .i64 y1)).setCell ⟨g,i * 3+1,none⟩ (.int .i64 y2)).setCell ⟨g,i * 3+2,none⟩ (.int .i64 y3)).setCell ⟨g,j * 3,none⟩ (.int .i64 x1)).setCell ⟨g,j * 3+1,none⟩ (.int .i64 x2)).setCell ⟨g,j * 3+2,none⟩ (.int .i64 x3)).drew).ownsRow base 258 3 (.slice (yA ⟨g,0,none⟩) n c) n (flat zDO ((ys.set i (y1,y2,y3)).set j (x1,x2,x3))):=by
 rw [<- sw_eq]
 refine sI ?_
 have h1:=mR zCE h hn hi (y1,y2,y3)
 have h2:=mR zCE h1 (by rw [lD];exact hn) (i:=j) (by rw [lD];exact hj) (x1,x2,x3)
 exact h2
theorem heap_drew {w:uA} {F:Nat} {o:Obj} (h:w.heap[F]?=yA o):w.drew.heap[F]?=yA o:=h
theorem zPC {w:uA} {F g:Nat} {o:Obj} (h:w.heap[F]?=yA o) (hne:F≠g) (i j:Nat) (x1 x2 x3 y1 y2 y3:Int):(((((((w.setCell ⟨g,i * 3,none⟩ (.int .i64 y1)).setCell ⟨g,i * 3+1,none⟩ (.int .i64 y2)).setCell ⟨g,i * 3+2,none⟩ (.int .i64 y3)).setCell ⟨g,j * 3,none⟩ (.int .i64 x1)).setCell ⟨g,j * 3+1,none⟩ (.int .i64 x2)).setCell ⟨g,j * 3+2,none⟩ (.int .i64 x3)).drew).heap[F]?=yA o :=
 heap_drew (pC (pC (pC (pC (pC (pC h hne _) hne _) hne _) hne _) hne _) hne _)
theorem zPB {w0 w:uA} {B g:Nat} (h:Below B w0 w) (hg:B<=g) (i j:Nat) (x1 x2 x3 y1 y2 y3:Int):Below B w0 (((((((w.setCell ⟨g,i * 3,none⟩ (.int .i64 y1)).setCell ⟨g,i * 3+1,none⟩ (.int .i64 y2)).setCell ⟨g,i * 3+2,none⟩ (.int .i64 y3)).setCell ⟨g,j * 3,none⟩ (.int .i64 x1)).setCell ⟨g,j * 3+1,none⟩ (.int .i64 x2)).setCell ⟨g,j * 3+2,none⟩ (.int .i64 x3)).drew) :=
 ((((((h.setCell (p:=⟨g,i * 3,none⟩) hg _).setCell (p:=⟨g,i * 3+1,none⟩) hg _).setCell (p:=⟨g,i * 3+2,none⟩) hg _).setCell (p:=⟨g,j * 3,none⟩) hg _).setCell (p:=⟨g,j * 3+1,none⟩) hg _).setCell (p:=⟨g,j * 3+2,none⟩) hg _).drew
theorem zRS (Q base:Nat) (A:Option mB) (c:Nat) (xs:List Ne) (w:uA) (h:yN w Q base A c xs) (h0:0<xs.length) (hm:xs.length<=1000000) (hb:base<=w.heap.size):Calls prog 243 #[(Q,0)] w fun e w'=>e=.returned (.tuple #[])/\yN w' Q base A c (zHs xs.length xs (xs.length - 1))/\Below base w w':=by
 obtain ⟨out,hout⟩:∃ out,zHs xs.length xs (xs.length - 1)=out:=⟨_,rfl⟩
 rw [hout]
 obtain ⟨n,hn⟩:∃ n,n=xs.length:=⟨_,rfl⟩
 rw [<- hn] at hout h0 hm
 have HN:=fA hn.symm
 have HO:=fA hout
 have HQ:=fA h
 have gQ:=h.blk
 rw [<- hn] at gQ
 have hbr:=cC base w
 have HST:jC (∀ (f:Nat) (xs:List Ne) (i:Nat),¬ (0<i/\dZ (xs.getD i (0,0,0)) (xs.getD ((i - 1) / 2) (0,0,0))<0) -> zHs f xs i=xs):=fA fun f xs i h=>zPM f h
 have HGO:jC (∀ (f:Nat) (xs:List Ne) (i:Nat),i<=f -> (0<i/\dZ (xs.getD i (0,0,0)) (xs.getD ((i - 1) / 2) (0,0,0))<0) -> zHs f xs i=zHs (f - 1) (iQ xs i ((i - 1) / 2)) ((i - 1) / 2)):=fA fun f xs i h1 h2=>zRR h1 h2
 generalize zHs=g at *
 obtain ⟨q0,q1,_,_,_⟩:=nJ gQ
 clear h hn hout
 go_enter func243,ntmps243
 go_wp2
 clear gQ q0 q1
 refine zAm 0 (zFD Q base n A c g out w) (fun a' _=>(intOf (a'.tmps.getD 2 vB)).toNat) rfl ?_ ?_
 ·rintro a' wr ⟨i,f,ys,u,HL,⟨hin,hif⟩,HX,HQ2,hw,rfl⟩
  clear HN HO HQ
  have gQ:=HQ2.out.blk
  rw [HL.out] at gQ
  obtain ⟨q0,q1,_,_,qlt⟩:=nJ gQ
  have hf0:=qB gQ 0
  by_cases hi0:i=0
  ·subst hi0
   have hX:=HX.out
   rw [HST.out f ys 0 (by omega)] at hX
   go_wp2
   go_quiet (fail)
   go_wp2
   simp only [vP]
   go_end0
   subst hX
   exact ⟨rfl,HQ2.out.many _,Below.many hw _⟩
  ·have hi1:(0:Int)<(i:Int):=by omega
   have hd1:decide ((0:Int)<(i:Int))=true:=decide_eq_true hi1
   have hd2:0<i:=by omega
   obtain ⟨j,hj⟩:∃ j,(i - 1) / 2=j:=⟨_,rfl⟩
   have hjI:((i:Int) - 1) / 2=(j:Int):=by omega
   have hji:j<i:=by omega
   have hin2:i<ys.length:=by rw [HL.out];exact hin
   have hjn2:j<ys.length:=by omega
   have hGI:=fA (HGO.out f ys i hif)
   have hSI:=fA (HST.out f ys i)
   rw [hj] at hGI hSI
   have eI:ys.getD i (0,0,0)=ys[i]'hin2:=by rw [pB,rA hin2];rfl
   have eJ:ys.getD j (0,0,0)=ys[j]'hjn2:=by rw [pB,rA hjn2];rfl
   have HSW:jC (iQ ys i j=(ys.set i (ys[j]'hjn2)).set j (ys[i]'hin2)):=fA (by unfold iQ;rw [eI,eJ])
   rw [eI,eJ] at hGI hSI
   have HRW:=fA HQ2.out.row
   rw [HL.out] at HRW
   obtain ⟨ga,hga⟩:∃ ga,A=yA ⟨ga,0,none⟩:=zBh HRW.out (by omega)
   subst hga
   obtain ⟨d0,d1,d2⟩:=jY HRW.out hin2
   obtain ⟨e0,e1,e2⟩:=jY HRW.out hjn2
   have hfr:=mG HRW.out
   have HU:=fA (fun W=>zCM (ys[i]'hin2).1 (ys[i]'hin2).2.1 (ys[i]'hin2).2.2 (ys[j]'hjn2).1 (ys[j]'hjn2).2.1 (ys[j]'hjn2).2.2 W)
   generalize (ys[i]'hin2)=x at *
   generalize (ys[j]'hjn2)=y at *
   obtain ⟨x1,x2,x3⟩:=x
   obtain ⟨y1,y2,y3⟩:=y
   simp only at d0 d1 d2 e0 e1 e2 HU
   have hii:(i:Int)<(n:Int):=by omega
   have hjj:(j:Int)<(n:Int):=by omega
   have hi00:(0:Int)<=(i:Int):=by omega
   have hj00:(0:Int)<=(j:Int):=by omega
   have hgl:ga<wr.heap.size:=by have:=qC HRW.out ga (by simp [zB]);omega
   obtain ⟨bb,hbb⟩:∃ bb,bb=decide (dZ (x1,x2,x3) (y1,y2,y3)<0):=⟨_,rfl⟩
   rw [<- hbb] at HU
   have HBB:=fA hbb
   clear hbb
   have HOR:jC (bb=true -> dZ (x1,x2,x3) (y1,y2,y3)<0):=fA fun h=>by rw [HBB.out] at h;simpa using h
   have HNO:jC (bb=false -> ¬ dZ (x1,x2,x3) (y1,y2,y3)<0):=fA fun h=>by rw [HBB.out] at h;simpa using h
   clear HBB
   generalize dZ (x1,x2,x3) (y1,y2,y3)=od at *
   go_wp2
   go_region_held3 (fun W=>W.cell? ⟨Q,0,none⟩=yA (.slice (yA ⟨ga,0,none⟩) n c)/\W.cell? ⟨Q,1,none⟩=yA (.func (.func 239) #[] #[])/\W.cell? ⟨ga,i * 3,none⟩=yA (.int .i64 x1)/\W.cell? ⟨ga,i * 3+1,none⟩=yA (.int .i64 x2)/\W.cell? ⟨ga,i * 3+2,none⟩=yA (.int .i64 x3)/\W.cell? ⟨ga,j * 3,none⟩=yA (.int .i64 y1)/\W.cell? ⟨ga,j * 3+1,none⟩=yA (.int .i64 y2)/\W.cell? ⟨ga,j * 3+2,none⟩=yA (.int .i64 y3)) (first | exact ⟨q0,q1,d0,d1,d2,e0,e1,e2⟩ | exact ⟨r0,r1,s0,s1,s2,t0,t1,t2⟩) ((go_at_call 239;(refine (HU.out _).mono ?_);rintro e w1 ⟨rfl,hb1⟩;have hb1':Below wr.heap.size wr w1:=⟨hb1.os,hb1.tape,hb1.output,hb1.size,hb1.block⟩;have r0:=((bcell hb1').1 Q 0 qlt).trans q0;have r1:=((bcell hb1').1 Q 1 qlt).trans q1;have s0:=((bcell hb1').1 ga (i * 3) hgl).trans d0;have s1:=((bcell hb1').1 ga (i * 3+1) hgl).trans d1;have s2:=((bcell hb1').1 ga (i * 3+2) hgl).trans d2;have t0:=((bcell hb1').1 ga (j * 3) hgl).trans e0;have t1:=((bcell hb1').1 ga (j * 3+1) hgl).trans e1;have t2:=((bcell hb1').1 ga (j * 3+2) hgl).trans e2))
   have hw1:=hw.trans (hb1'.mono (pA hb hw.size))
   have HR1:=fA (jB HRW.out hb1')
   have gQ1:=kA hb1' gQ
   cases bb with
   | false =>
    have hX:=HX.out
    rw [hSI.out (fun h=>by have h1:=HNO.out rfl;have h2:=h.2;omega)] at hX
    go_wp2
    simp only [vP]
    go_end0
    subst hX
    exact ⟨rfl,HQ2.out.below hb1',hw1⟩
   | true =>
    have hX:=HX.out
    rw [hGI.out ⟨by omega,HOR.out rfl⟩] at hX
    have HX2:=fA hX
    clear hX HX
    have hf1:=mG HR1.out
    have hqf:=qB gQ1 0
    go_wp2
    have hgb:base<=ga:=(qC HR1.out ga (by simp [zB])).1
    have HSP:jC (∀ W,W=((((((w1.setCell ⟨ga,i * 3,none⟩ (.int .i64 y1)).setCell ⟨ga,i * 3+1,none⟩ (.int .i64 y2)).setCell ⟨ga,i * 3+2,none⟩ (.int .i64 y3)).setCell ⟨ga,j * 3,none⟩ (.int .i64 x1)).setCell ⟨ga,j * 3+1,none⟩ (.int .i64 x2)).setCell ⟨ga,j * 3+2,none⟩ (.int .i64 x3)).drew -> yN W Q base (yA ⟨ga,0,none⟩) c (iQ ys i j)):=fA fun W hW=>by
     have hF:=HQ2.out.far
     have hne:Q≠ga:=fun h=>hF (by subst h;simp [zB])
     have hl:=tP ys i j
     refine ⟨?_,?_,hF,HQ2.out.base⟩
     ·rw [hl,HL.out,hW]
      exact zPC gQ1 hne i j x1 x2 x3 y1 y2 y3
     ·rw [hl,HL.out,hW,HSW.out]
      exact zPD HR1.out HL.out hin2 hjn2 x1 x2 x3 y1 y2 y3
    have HBL:jC (∀ W,W=((((((w1.setCell ⟨ga,i * 3,none⟩ (.int .i64 y1)).setCell ⟨ga,i * 3+1,none⟩ (.int .i64 y2)).setCell ⟨ga,i * 3+2,none⟩ (.int .i64 y3)).setCell ⟨ga,j * 3,none⟩ (.int .i64 x1)).setCell ⟨ga,j * 3+1,none⟩ (.int .i64 x2)).setCell ⟨ga,j * 3+2,none⟩ (.int .i64 x3)).drew -> Below base w W):=fA fun W hW=>by
     rw [hW]
     exact zPB hw1 hgb i j x1 x2 x3 y1 y2 y3
    have hQg:Q≠ga:=fun h=>HQ2.out.far (by subst h;simp [zB])
    have hQg2:ga≠Q:=fun h=>hQg h.symm
    have qc1:w1.drew.cell? ⟨Q,0,none⟩=yA (.slice (yA ⟨ga,0,none⟩) n c):=jA gQ1 0
    have hqc:∀ W:uA,W.drew.cell? ⟨Q,0,none⟩=yA (.slice (yA ⟨ga,0,none⟩) n c) -> ∀ a1 a2 a3 v1 v2 v3,(((W.setCell ⟨ga,a1,none⟩ v1).setCell ⟨ga,a2,none⟩ v2).setCell ⟨ga,a3,none⟩ v3).drew.cell? ⟨Q,0,none⟩=yA (.slice (yA ⟨ga,0,none⟩) n c):=fun W h a1 a2 a3 v1 v2 v3=>(oE _ _ _ _ hQg2).trans ((oE _ _ _ _ hQg2).trans ((oE _ _ _ _ hQg2).trans h))
    refine iC (S:=fun W:uA=>W.cell? ⟨Q,0,none⟩=yA (.slice (yA ⟨ga,0,none⟩) n c)) [] qc1 fun hH => ?_
    refine gU [100,101,102,103,104,105,106,107,108,109,110,111,112,113,114,115,117,118,119,120,121,122] ?_
    refine bU 16 23 (fun K hK => ?_) ?_
    ·go_simp
     refine hK.out _ _ hH fun hH => ?_
     clear hK K
     try simp only [nP]
     refine oU 23 fun K hK => ?_
     go_simp
     refine hK.out _ _ hH fun hH => ?_
     clear hK K
     try simp only [nP]
     refine gU [124] ?_
     refine oU 25 fun K hK => ?_
     go_simp
     refine hK.out _ _ (hqc _ hH _ _ _ _ _ _) fun hH => ?_
     clear hK K
     try simp only [nP]
     refine gU [126] ?_
     refine oU 27 fun K hK => ?_
     go_simp
     refine hK.out _ _ (hqc _ hH _ _ _ _ _ _) fun hH => ?_
     clear hK K
     try simp only [nP]
     refine gU [300] ?_
     go_wp2
     refine wp_goto (gG rfl (gG (zFD.mk (i:=j) (f:=f - 1) (xs:=iQ ys i j) ((tP ys i j).trans HL.out) ⟨by omega,by omega⟩ HX2.out (HSP.out _ rfl) (HBL.out _ rfl) (by rfl)) ?_))
     show (intOf (.int .i64 (j:Int))).toNat<(intOf (.int .i64 (i:Int))).toNat
     simp only [intOf];omega
    intro K hK
    go_simp
    refine hK.out _ _ hH fun hH => ?_
    clear hK K
    try simp only [nP]
    refine oU 16 fun K hK => ?_
    go_simp
    refine hK.out _ _ hH fun hH => ?_
    clear hK K
    try simp only [nP]
    refine gU [124] ?_
    refine oU 25 fun K hK => ?_
    go_simp
    refine hK.out _ _ (hqc _ hH _ _ _ _ _ _) fun hH => ?_
    clear hK K
    try simp only [nP]
    refine gU [126] ?_
    refine oU 27 fun K hK => ?_
    go_simp
    refine hK.out _ _ (hqc _ hH _ _ _ _ _ _) fun hH => ?_
    clear hK K
    try simp only [nP]
    refine gU [300] ?_
    go_wp2
    refine wp_goto (gG rfl (gG (zFD.mk (i:=j) (f:=f - 1) (xs:=iQ ys i j) ((tP ys i j).trans HL.out) ⟨by omega,by omega⟩ HX2.out (HSP.out _ rfl) (HBL.out _ rfl) (by rfl)) ?_))
    show (intOf (.int .i64 (j:Int))).toNat<(intOf (.int .i64 (i:Int))).toNat
    simp only [intOf];omega
 ·intro hp
  have gQ:=HQ.out.blk
  rw [HN.out] at gQ
  obtain ⟨q0,q1,_,_,_⟩:=nJ gQ
  have hwr:IntKind.i64.wrap ((n:Int) - 1)=((n - 1:Nat):Int):=by rw [oH (by omega) (by omega)];omega
  go_wp2
  refine wp_label ?_
  show Exit.then _ _ _ _ _
  refine (by assumption:∀ (a:Act) (w:uA),_ -> _) _ _ (hp _ _ ?_)
  exact zFD.mk (i:=n - 1) (f:=n) HN.out ⟨by omega,by omega⟩ HO.out HQ.out hbr (by rfl)
theorem zRA (w:uA):yN (w.alloc (.cells #[.slice none 0 0,.func (.func 239) #[] #[]] 335)) w.heap.size w.heap.size none 0 [] :=
 ⟨rB w _,⟨rfl,.inl ⟨rfl,rfl⟩⟩,by simp [zB],mA _⟩
theorem zOP (w:uA):Calls prog 173 #[] w fun e w'=>e=.returned (.pointer (yA ⟨w.heap.size,0,none⟩))/\yN w' w.heap.size w.heap.size none 0 []/\Below w.heap.size w w':=by
 have hn:=zRA w
 have hb:=wA w (.cells #[.slice none 0 0,.func (.func 239) #[] #[]] 335)
 go_enter func173,ntmps173
 go_wp2
 go_ret
 exact ⟨rfl,hn,hb⟩
section
variable {R:Nat -> Prop} {w w' w'':uA} {C:Nat} {L L' L'':CL} {c c' c'':Cl}
theorem zBl (h:iG R w C L c) (hR:∀ x,w.heap.size<=x -> R x) {x:Nat} (h1:w.heap.size<=x) (h2:x<w'.heap.size):L.rd R w' C x:=⟨hR x h1,fun q=>by have:=h.own_lt q;omega,h2⟩
theorem nC {S:List Nat} (hS:∀ x ∈ S,L.own C x):∀ x,L.rd R w C x -> x ∉ S:=fun x hx q=>hx.2.1 (hS x q)
section
variable (h:iG R w C L c) {S:List Nat} (hC:fD S w w') (hS:∀ x ∈ S,L.own C x)
include h hC hS
theorem iG.kn:vS (L.rd R w' C) qH w' L.nA L.nc c.ns:=(h.rn.chg hC (nC hS)).mono fun _=>zAh hC.size
theorem iG.kc:zCj (L.rd R w' C) w' L.cA L.cc c.cs:=(h.rc.chg hC (nC hS)).mono fun _=>zAh hC.size
theorem iG.kb:vS (L.rd R w' C) zU w' L.bA L.bc c.bs:=(h.rb.chg hC (nC hS)).mono fun _=>zAh hC.size
theorem iG.kl:vS (L.rd R w' C) vU w' L.lA L.lc c.ls:=(h.rl.chg hC (nC hS)).mono fun _=>zAh hC.size
theorem iG.kd:vS (L.rd R w' C) qL w' L.dA L.dc c.ds:=(h.rd.chg hC (nC hS)).mono fun _=>zAh hC.size
end
theorem wP (C:Nat) (L:CL):∀ x ∈ [C],L.own C x:=fun x hx=>.inl (xB.1 hx)
theorem iG.upd (h:iG R w C L c) (hC:fD [C] w w') (e1:L'.M=L.M) (e2:L'.q=L.q) (e3:L'.hb=L.hb) (e4:L'.eA=L.eA) (e5:L'.ec=L.ec) (e6:c'.h=c.h) (e7:c'.net=c.net)
  (blk:w'.heap[C]?=yA (zNm (.slice L'.nA c'.ns.length L'.nc) (.slice L'.cA c'.cs.length L'.cc) (.slice L'.bA c'.bs.length L'.bc) (.slice L'.lA c'.ls.length L'.lc) (.slice L'.dA c'.ds.length L'.dc) c'.r c'.t L.M (.slice L.eA c.net.length L.ec)))
  (rn:vS (L.rd R w' C) qH w' L'.nA L'.nc c'.ns) (rc:zCj (L.rd R w' C) w' L'.cA L'.cc c'.cs) (rb:vS (L.rd R w' C) zU w' L'.bA L'.bc c'.bs) (rl:vS (L.rd R w' C) vU w' L'.lA L'.lc c'.ls) (rd:vS (L.rd R w' C) qL w' L'.dA L'.dc c'.ds):rC R C L L' c' w w':=by
 obtain ⟨nA,nc,cA,cc,bA,bc,lA,lc,dA,dc,M,q,hb,eA,ec⟩:=L'
 obtain ⟨ns,cs,bs,ls,ds,r,t,hf,net⟩:=c'
 subst e1 e2 e3 e4 e5 e6 e7
 have hne:∀ x,x≠C -> x ∉ [C]:=fun x hx q=>hx (xB.1 q)
 refine ⟨⟨blk,rn,rc,rb,rl,rd,h.mp.chg hC (hne _ (Ne.symm h.cm)),h.hn,fun k H s S v hk hv => ?_,xE h.ne hC (fun x hx=>hne x (h.ce x hx).1),h.cm,h.ce,h.ch,h.hh⟩,cJ.of hC (fun x hx=>.inl (wP C L x hx)),fun x hx=>.inl hx⟩
 obtain ⟨h1,h2⟩:=h.ho k H s S v hk hv
 have h3:=h.ch k H s S hk
 exact ⟨hC.keep h1 (hne _ h3.1),h2.out (cJ.of (P:=fun x=>x=C) hC (fun x hx=>.inl (xB.1 hx))) fun x hx=>by subst hx;exact ⟨fun q=>q.2 (.inl rfl),fun q=>(h3.2.2.2.2 _ q).1 rfl⟩⟩
theorem qS.mono2 {R₂:Nat -> Prop} {s:Nat} {S:SL} {v:Sv} (h:qS R w s S v) (hR:∀ x,x<w.heap.size -> R x -> ¬ S.own s x -> R₂ x):qS R₂ w s S v:=⟨h.blk,⟨h.rl.1,fun x hx=>⟨hR x (h.lt x hx) (h.rl.2 x hx).1 (h.rl.2 x hx).2,(h.rl.2 x hx).2⟩⟩,h.mp,h.rows,h.dis,h.sm,h.sr,h.lt⟩
theorem iF {α:Type} (f:Int -> α) (k:Int) (u:α):eH f k u k=u:=by unfold eH;rw [if_pos rfl]
theorem fG {α:Type} (f:Int -> α) {k k':Int} (u:α) (h:k'≠k):eH f k u k'=f k':=by unfold eH;rw [if_neg h]
theorem iG.host (h : iG R w C L c) {k : Int} {H s : Nat} {S S' : SL} {v : zHu} {v' : Sv} (hk : L.hb k = yA (H, s, S)) (hv : c.h k = yA v) (st : qI (fun x => R x /\ ¬ L.own C x) s S S' v' w w') :
  rC R C L { L with hb:=eH L.hb k (yA (H,s,S')) } { c with h:=eH c.h k (yA ⟨v',v.up⟩) } w w':=by
 obtain ⟨T,hT,hC⟩:=st.chg.list
 obtain ⟨g1,g2⟩:=h.ho k H s S v hk hv
 have h3:=h.ch k H s S hk
 have hSo:∀ x,S.own s x -> L.own C x:=fun x hx=>.inr (.inr (.inr ⟨k,H,s,S,hk,.inr hx⟩))
 have hTo:∀ x ∈ T,L.own C x:=fun x hx=>hSo x (hT x hx).1
 have hno:∀ x,(x=C\/x=L.M\/x ∈ zB L.eA) -> x ∉ T:=fun x hx q=>by
  have:=h3.2.2.2.2 x (hT x q).1
  rcases hx with e | e | e
  ·exact this.1 e
  ·exact this.2.1 e
  ·exact this.2.2 e
 have hown:∀ x,({ L with hb:=eH L.hb k (yA (H,s,S')) }:CL).own C x -> L.own C x\/(S'.own s x/\w.heap.size<=x):=fun x hx=>by
  rcases hx with q | q | q | ⟨k',H',s',S2,hk',q⟩
  ·exact .inl (.inl q)
  ·exact .inl (.inr (.inl q))
  ·exact .inl (.inr (.inr (.inl q)))
  ·dsimp only at hk'
   unfold eH at hk'
   split at hk'
   ·injection hk' with e
    injection e with e1 e
    injection e with e2 e3
    subst e1 e2 e3
    rcases q with q | q
    ·exact .inl (.inr (.inr (.inr ⟨k,_,_,S,hk,.inl q⟩)))
    ·rcases st.fr x q with p | p
     ·exact .inl (hSo x p)
     ·exact .inr ⟨q,p⟩
   ·exact .inl (.inr (.inr (.inr ⟨k',H',s',S2,hk',q⟩)))
 have hrd:∀ x,L.rd R w C x -> ({ L with hb:=eH L.hb k (yA (H,s,S')) }:CL).rd R w' C x:=fun x hx=>⟨hx.1,fun q=>(hown x q).elim hx.2.1 (fun p=>by have:=hx.2.2;omega),tA hx.2.2 hC.size⟩
 have hlt:∀ x,L.own C x -> x<w.heap.size:=fun x hx=>h.own_lt hx
 have hSf:∀ x,S'.own s x -> S.own s x\/w.heap.size<=x:=st.fr
 refine ⟨⟨hC.keep h.blk (hno C (.inl rfl)),(h.rn.chg hC (nC hTo)).mono hrd,(h.rc.chg hC (nC hTo)).mono hrd,(h.rb.chg hC (nC hTo)).mono hrd,(h.rl.chg hC (nC hTo)).mono hrd,(h.rd.chg hC (nC hTo)).mono hrd,?_,fun k' => ?_,fun k' H' s' S2 v2 hk' hv' => ?_,xE h.ne hC (fun x hx=>hno x (.inr (.inr hx))),h.cm,h.ce,fun k' H' s' S2 hk' => ?_,fun k1 H1 s1 S1 k2 H2 s2 S2 hk1 hk2 hkk => ?_⟩,st.chg.mono (fun x hx=>.inl (hSo x hx)),fun x hx=>(hown x hx).imp id (·.2)⟩
 ·have e:(fun k'=>hkey (eH L.hb k (yA (H,s,S')) k'))=fun k'=>hkey (L.hb k'):=by
   funext k'
   by_cases e:k'=k
   ·subst e;rw [iF,hk];rfl
   ·rw [fG _ _ e]
  dsimp only
  rw [e]
  exact h.mp.chg hC (hno _ (.inr (.inl rfl)))
 ·dsimp only
  by_cases e:k'=k
  ·subst e;rw [iF,iF];simp
  ·rw [fG _ _ e,fG _ _ e];exact h.hn k'
 ·dsimp only at hk' hv'
  by_cases e:k'=k
  ·subst e
   rw [iF] at hk' hv'
   injection hk' with e
   injection e with e1 e
   injection e with e2 e3
   injection hv' with e4
   subst e1 e2 e3 e4
   exact ⟨hC.keep g1 (fun q=>h3.2.2.2.1 (hT _ q).1),st.at_.mono2 fun x _ hx hns=>⟨hx.1,fun q=>(hown x q).elim hx.2 (fun p=>hns p.1)⟩⟩
  ·rw [fG _ _ e] at hk' hv'
   obtain ⟨f1,f2⟩:=h.ho k' H' s' S2 v2 hk' hv'
   have hx:=h.hh k' H' s' S2 k H s S hk' hk e
   refine ⟨hC.keep f1 (fun q=>hx.2.1 (hT _ q).1),qS.mono2 (qS.out (f2.mono2 (R₂:=fun x=>(R x/\¬ L.own C x)/\x<w.heap.size) fun x hl hx hns=>⟨hx,hl⟩) st.chg fun x hS=>⟨fun q=>q.1.2 (hSo x hS),fun q=>hx.2.2.2 x q hS⟩) fun x _ hx _=>⟨hx.1.1,fun q=>(hown x q).elim hx.1.2 (fun p=>by have:=hx.2;have:=p.2;omega)⟩⟩
 ·dsimp only at hk'
  by_cases e:k'=k
  ·subst e
   rw [iF] at hk'
   injection hk' with e
   injection e with e1 e
   injection e with e2 e3
   subst e1 e2 e3
   refine ⟨h3.1,h3.2.1,h3.2.2.1,fun q=>(hSf _ q).elim h3.2.2.2.1 (fun p=>by have:=eB g1;omega),fun x q=>(hSf x q).elim (h3.2.2.2.2 x) (fun p=>⟨fun e=>by have:=eB h.blk;omega,fun e=>by have e:x=L.M:=e;have:=h.mp.lt;omega,fun e=>by have:=(qC h.ne x e).2;omega⟩)⟩
  ·rw [fG _ _ e] at hk'
   exact h.ch k' H' s' S2 hk'
 ·dsimp only at hk1 hk2
  have key:∀ (k':Int) (H' s':Nat) (S2:SL),k'≠k -> L.hb k'=yA (H',s',S2) -> H≠H'/\¬ S2.own s' H/\¬ S'.own s H'/\∀ x,S'.own s x -> ¬ S2.own s' x:=fun k' H' s' S2 hne hk'=>by
   obtain ⟨a1,a2,a3,a4⟩:=h.hh k H s S k' H' s' S2 hk hk' (Ne.symm hne)
   have hH':H'<w.heap.size:=hlt H' (.inr (.inr (.inr ⟨k',H',s',S2,hk',.inl rfl⟩)))
   exact ⟨a1,a2,fun q=>(hSf _ q).elim a3 (fun p=>by omega),fun x q r=>(hSf x q).elim (fun p=>a4 x p r) (fun p=>by have:=hlt x (.inr (.inr (.inr ⟨k',H',s',S2,hk',.inr r⟩)));omega)⟩
  by_cases e1:k1=k
  ·have e2:k2≠k:=fun e=>hkk (e1.trans e.symm)
   rw [e1,iF] at hk1
   rw [fG _ _ e2] at hk2
   injection hk1 with e
   injection e with f1 e
   injection e with f2 f3
   subst f1 f2 f3
   exact key k2 H2 s2 S2 e2 hk2
  ·rw [fG _ _ e1] at hk1
   by_cases e2:k2=k
   ·rw [e2,iF] at hk2
    injection hk2 with e
    injection e with f1 e
    injection e with f2 f3
    subst f1 f2 f3
    obtain ⟨a1,a2,a3,a4⟩:=key k1 H1 s1 S1 e1 hk1
    exact ⟨Ne.symm a1,a3,a2,fun x q r=>a4 x r q⟩
   ·rw [fG _ _ e2] at hk2
    exact h.hh k1 H1 s1 S1 k2 H2 s2 S2 hk1 hk2 hkk
theorem iG.setUp (h:iG R w C L c) {k:Int} {H s:Nat} {S:SL} {v:zHu} (hk:L.hb k=yA (H,s,S)) (hv:c.h k=yA v) (b:Bool):rC R C L L { c with h:=eH c.h k (yA ⟨v.s,b⟩) } w (w.setCell ⟨H,1,none⟩ (.bool b)):=by
 obtain ⟨g1,g2⟩:=h.ho k H s S v hk hv
 have h3:=h.ch k H s S hk
 have hC:fD [H] w (w.setCell ⟨H,1,none⟩ (.bool b)):=(fD.refl _ w).setCell (.inl (by simp)) 1 _
 have hO:∀ x ∈ [H],L.own C x:=fun x hx=>by rw [xB] at hx;subst hx;exact .inr (.inr (.inr ⟨k,x,s,S,hk,.inl rfl⟩))
 have hne:∀ x,x≠H -> x ∉ [H]:=fun x hx q=>hx (xB.1 q)
 have hm:∀ x,L.rd R w C x -> L.rd R (w.setCell ⟨H,1,none⟩ (.bool b)) C x:=fun x=>zAh hC.size
 refine ⟨⟨hC.keep h.blk (hne _ (Ne.symm h3.1)),(h.rn.chg hC (nC hO)).mono hm,(h.rc.chg hC (nC hO)).mono hm,(h.rb.chg hC (nC hO)).mono hm,(h.rl.chg hC (nC hO)).mono hm,(h.rd.chg hC (nC hO)).mono hm,h.mp.chg hC (hne _ (Ne.symm h3.2.1)),fun k' => ?_,fun k' H' s' S2 v2 hk' hv' => ?_,xE h.ne hC (fun x hx=>hne x (fun e=>h3.2.2.1 (e ▸ hx))),h.cm,h.ce,h.ch,h.hh⟩,cJ.of hC (fun x hx=>.inl (hO x hx)),fun x hx=>.inl hx⟩
 ·dsimp only
  by_cases e:k'=k
  ·subst e;rw [iF,hk];simp
  ·rw [fG _ _ e];exact h.hn k'
 ·dsimp only at hv'
  by_cases e:k'=k
  ·subst e
   rw [iF] at hv'
   rw [hk] at hk'
   injection hk' with e
   injection e with e1 e
   injection e with e2 e3
   injection hv' with e4
   subst e1 e2 e3 e4
   refine ⟨by simpa using zD (i:=1) g1 (.bool b),g2.out (cJ.of (P:=fun x=>x=H) hC (fun x hx=>.inl (xB.1 hx))) fun x hx=>by subst hx;exact ⟨fun q=>q.2 (hO x (by simp)),h3.2.2.2.1⟩⟩
  ·rw [fG _ _ e] at hv'
   obtain ⟨f1,f2⟩:=h.ho k' H' s' S2 v2 hk' hv'
   have hx:=h.hh k' H' s' S2 k H s S hk' hk e
   exact ⟨hC.keep f1 (hne _ hx.1),f2.out (cJ.of (P:=fun x=>x=H) hC (fun x hx=>.inl (xB.1 hx))) fun x hx2=>by subst hx2;exact ⟨fun q=>q.2 (hO x (by simp)),hx.2.2.1⟩⟩
theorem iG.setNet (h:iG R w C L c) {A:Option mB} {a:Nat} {net':List Od} (hC:fD (C :: zB L.eA) w w') (blk:w'.heap[C]?=yA (zNm (.slice L.nA c.ns.length L.nc) (.slice L.cA c.cs.length L.cc) (.slice L.bA c.bs.length L.bc) (.slice L.lA c.ls.length L.lc) (.slice L.dA c.ds.length L.dc) c.r c.t L.M (.slice A net'.length a)))
  (ho:w'.ownsRow 0 105 7 (.slice A net'.length a) net'.length (flat qL net')) (hA:∀ x ∈ zB A,x ∈ zB L.eA\/w.heap.size<=x):rC R C L { L with eA:=A,ec:=a } { c with net:=net' } w w':=by
 have hO:∀ x ∈ C :: zB L.eA,L.own C x:=fun x hx=>(pE.1 hx).elim .inl (fun q=>.inr (.inr (.inl q)))
 have hlt:∀ x,L.own C x -> x<w.heap.size:=fun x hx=>h.own_lt hx
 have hown:∀ x,({ L with eA:=A,ec:=a }:CL).own C x -> L.own C x\/w.heap.size<=x:=fun x hx=>by
  rcases hx with q | q | q | ⟨k',H',s',S2,hk',q⟩
  ·exact .inl (.inl q)
  ·exact .inl (.inr (.inl q))
  ·exact (hA x q).imp (fun p=>.inr (.inr (.inl p))) id
  ·exact .inl (.inr (.inr (.inr ⟨k',H',s',S2,hk',q⟩)))
 have hrd:∀ x,L.rd R w C x -> ({ L with eA:=A,ec:=a }:CL).rd R w' C x:=fun x hx=>⟨hx.1,fun q=>(hown x q).elim hx.2.1 (fun p=>by have:=hx.2.2;omega),tA hx.2.2 hC.size⟩
 have hno:∀ x,x≠C -> x ∉ zB L.eA -> x ∉ C :: zB L.eA:=fun x h1 h2 q=>(pE.1 q).elim h1 h2
 refine ⟨⟨blk,(h.rn.chg hC (nC hO)).mono hrd,(h.rc.chg hC (nC hO)).mono hrd,(h.rb.chg hC (nC hO)).mono hrd,(h.rl.chg hC (nC hO)).mono hrd,(h.rd.chg hC (nC hO)).mono hrd,h.mp.chg hC (hno _ (Ne.symm h.cm) (fun q=>(h.ce _ q).2 rfl)),h.hn,fun k' H' s' S2 v2 hk' hv' => ?_,ho,h.cm,fun x hx => ?_,fun k' H' s' S2 hk' => ?_,h.hh⟩,cJ.of hC (fun x hx=>.inl (hO x hx)),hown⟩
 ·obtain ⟨f1,f2⟩:=h.ho k' H' s' S2 v2 hk' hv'
  have h3:=h.ch k' H' s' S2 hk'
  exact ⟨hC.keep f1 (hno _ h3.1 h3.2.2.1),qS.mono2 (qS.out (f2.mono2 (R₂:=fun x=>(R x/\¬ L.own C x)/\x<w.heap.size) fun x hl hx hns=>⟨hx,hl⟩) (cJ.of (P:=fun x=>x ∈ C :: zB L.eA) hC (fun x hx=>.inl hx)) fun x hS=>⟨fun q=>q.1.2 (hO x hS),fun q=>(pE.1 hS).elim (fun e=>(h3.2.2.2.2 x q).1 e) (fun e=>(h3.2.2.2.2 x q).2.2 e)⟩) fun x _ hx _=>⟨hx.1.1,fun q=>(hown x q).elim hx.1.2 (fun p=>by have:=hx.2;omega)⟩⟩
 ·exact (hA x hx).elim (h.ce x) (fun p=>⟨fun e=>by have:=eB h.blk;omega,fun e=>by have e:x=L.M:=e;have:=h.mp.lt;omega⟩)
 ·have h3:=h.ch k' H' s' S2 hk'
  have hH:H'<w.heap.size:=hlt H' (.inr (.inr (.inr ⟨k',H',s',S2,hk',.inl rfl⟩)))
  exact ⟨h3.1,h3.2.1,fun q=>(hA _ q).elim h3.2.2.1 (fun p=>by omega),h3.2.2.2.1,fun x q=>⟨(h3.2.2.2.2 x q).1,(h3.2.2.2.2 x q).2.1,fun e=>(hA x e).elim (h3.2.2.2.2 x q).2.2 (fun p=>by have:=hlt x (.inr (.inr (.inr ⟨k',H',s',S2,hk',.inr q⟩)));omega)⟩⟩
theorem iG.addHost {w1 : uA} (h : iG R w C L c) {k : Int} {H s : Nat} {S : SL} {v : Sv} (hb : Below w.heap.size w w1) (gH : w1.heap[H]? = yA (.cells #[(s,0), .bool true] 73)) (hs : ∀ R', qS R' w1 s S v) (hn1 : w.heap.size <= H) (hn2 : ∀ x, S.own s x -> w.heap.size <= x /\ x < H)
  (hC:fD [L.M] w1 w') (hm:sX w' L.M (L.q+1) (eH (fun k=>hkey (L.hb k)) k (.pointer (yA ⟨H,0,none⟩)))):rC R C L { L with hb:=eH L.hb k (yA (H,s,S)),q:=L.q+1 } { c with h:=eH c.h k (yA ⟨v,true⟩) } w w':=by
 have h1:=h.below hb
 have hlt:∀ x,L.own C x -> x<w.heap.size:=fun x hx=>h.own_lt hx
 have hMl:L.M<w.heap.size:=h.mp.lt
 have hCl:C<w.heap.size:=eB h.blk
 have hO:∀ x ∈ [L.M],L.own C x:=fun x hx=>.inr (.inl (xB.1 hx))
 have hne:∀ x,x≠L.M -> x ∉ [L.M]:=fun x hx q=>hx (xB.1 q)
 have hown:∀ x,({ L with hb:=eH L.hb k (yA (H,s,S)),q:=L.q+1 }:CL).own C x -> L.own C x\/w.heap.size<=x:=fun x hx=>by
  rcases hx with q | q | q | ⟨k',H',s',S2,hk',q⟩
  ·exact .inl (.inl q)
  ·exact .inl (.inr (.inl q))
  ·exact .inl (.inr (.inr (.inl q)))
  ·dsimp only at hk'
   by_cases e:k'=k
   ·subst e
    rw [iF] at hk'
    injection hk' with e
    injection e with e1 e
    injection e with e2 e3
    subst e1 e2 e3
    rcases q with q | q
    ·exact .inr (by omega)
    ·exact .inr (hn2 x q).1
   ·rw [fG _ _ e] at hk'
    exact .inl (.inr (.inr (.inr ⟨k',H',s',S2,hk',q⟩)))
 have hM':({ L with hb:=eH L.hb k (yA (H,s,S)),q:=L.q+1 }:CL).own C L.M:=.inr (.inl rfl)
 have hrd:∀ x,L.rd R w C x -> ({ L with hb:=eH L.hb k (yA (H,s,S)),q:=L.q+1 }:CL).rd R w' C x:=fun x hx=>⟨hx.1,fun q=>(hown x q).elim hx.2.1 (fun p=>by have:=hx.2.2;omega),tA hx.2.2 (pA hb.size hC.size)⟩
 have hCW:fD [L.M] w w':=fD.pre hb hC
 refine ⟨⟨hCW.keep h.blk (hne _ h.cm),(h.rn.chg hCW (nC hO)).mono hrd,(h.rc.chg hCW (nC hO)).mono hrd,(h.rb.chg hCW (nC hO)).mono hrd,(h.rl.chg hCW (nC hO)).mono hrd,(h.rd.chg hCW (nC hO)).mono hrd,?_,fun k' => ?_,fun k' H' s' S2 v2 hk' hv' => ?_,xE h.ne hCW (fun x hx=>hne x (h.ce x hx).2),h.cm,h.ce,fun k' H' s' S2 hk' => ?_,fun k1 H1 s1 S1 k2 H2 s2 S2 hk1 hk2 hkk => ?_⟩,cJ.of hCW (fun x hx=>.inl (hO x hx)),hown⟩
 ·have e:(fun k'=>hkey (eH L.hb k (yA (H,s,S)) k'))=eH (fun k=>hkey (L.hb k)) k (.pointer (yA ⟨H,0,none⟩)):=by
   funext k'
   by_cases e:k'=k
   ·subst e;rw [iF,iF];rfl
   ·rw [fG _ _ e,fG _ _ e]
  dsimp only
  rw [e]
  exact hm
 ·dsimp only
  by_cases e:k'=k
  ·subst e;rw [iF,iF];simp
  ·rw [fG _ _ e,fG _ _ e];exact h.hn k'
 ·dsimp only at hk' hv'
  by_cases e:k'=k
  ·subst e
   rw [iF] at hk' hv'
   injection hk' with e
   injection e with e1 e
   injection e with e2 e3
   injection hv' with e4
   subst e1 e2 e3 e4
   exact ⟨hC.keep gH (hne _ (by omega)),(hs _).out (cJ.of (P:=fun x=>x=L.M) hC (fun x hx=>.inl (xB.1 hx))) fun x hx=>by subst hx;exact ⟨fun q=>q.2 hM',fun q=>by have:=(hn2 _ q).1;omega⟩⟩
  ·rw [fG _ _ e] at hk' hv'
   obtain ⟨f1,f2⟩:=h.ho k' H' s' S2 v2 hk' hv'
   have h3:=h.ch k' H' s' S2 hk'
   exact ⟨hCW.keep f1 (hne _ h3.2.1),qS.mono2 (qS.out (f2.mono2 (R₂:=fun x=>(R x/\¬ L.own C x)/\x<w.heap.size) fun x hl hx hns=>⟨hx,hl⟩) (cJ.of (P:=fun x=>x=L.M) hCW (fun x hx=>.inl (xB.1 hx))) fun x hS=>by subst hS;exact ⟨fun q=>q.1.2 (hO _ (by simp)),fun q=>(h3.2.2.2.2 _ q).2.1 rfl⟩) fun x _ hx _=>⟨hx.1.1,fun q=>(hown x q).elim hx.1.2 (fun p=>by have:=hx.2;omega)⟩⟩
 ·dsimp only at hk'
  by_cases e:k'=k
  ·subst e
   rw [iF] at hk'
   injection hk' with e
   injection e with e1 e
   injection e with e2 e3
   subst e1 e2 e3
   exact ⟨by omega,by dsimp only;omega,fun q=>by have:=(qC h.ne _ q).2;omega,fun q=>by have:=(hn2 _ q).2;omega,fun x q=>⟨fun e=>by have:=(hn2 x q).1;omega,fun e=>by have e:x=L.M:=e;have:=(hn2 x q).1;omega,fun e=>by have:=(hn2 x q).1;have:=(qC h.ne x e).2;omega⟩⟩
  ·rw [fG _ _ e] at hk'
   exact h.ch k' H' s' S2 hk'
 ·dsimp only at hk1 hk2
  have key:∀ (k':Int) (H' s':Nat) (S2:SL),L.hb k'=yA (H',s',S2) -> H≠H'/\¬ S2.own s' H/\¬ S.own s H'/\∀ x,S.own s x -> ¬ S2.own s' x:=fun k' H' s' S2 hk'=>by
   have hH':H'<w.heap.size:=hlt H' (.inr (.inr (.inr ⟨k',H',s',S2,hk',.inl rfl⟩)))
   have hS2:∀ x,S2.own s' x -> x<w.heap.size:=fun x hx=>hlt x (.inr (.inr (.inr ⟨k',H',s',S2,hk',.inr hx⟩)))
   exact ⟨by omega,fun q=>by have:=hS2 _ q;omega,fun q=>by have:=(hn2 _ q).1;omega,fun x q r=>by have:=(hn2 x q).1;have:=hS2 x r;omega⟩
  by_cases e1:k1=k
  ·have e2:k2≠k:=fun e=>hkk (e1.trans e.symm)
   rw [e1,iF] at hk1
   rw [fG _ _ e2] at hk2
   injection hk1 with e
   injection e with f1 e
   injection e with f2 f3
   subst f1 f2 f3
   exact key k2 H2 s2 S2 hk2
  ·rw [fG _ _ e1] at hk1
   by_cases e2:k2=k
   ·rw [e2,iF] at hk2
    injection hk2 with e
    injection e with f1 e
    injection e with f2 f3
    subst f1 f2 f3
    obtain ⟨a1,a2,a3,a4⟩:=key k1 H1 s1 S1 hk1
    exact ⟨Ne.symm a1,a3,a2,fun x q r=>a4 x r q⟩
   ·rw [fG _ _ e2] at hk2
    exact h.hh k1 H1 s1 S1 k2 H2 s2 S2 hk1 hk2 hkk
end
theorem zRf {A:Option mB} {n c g:Nat} (h:(zE A n c).ownBlock=yA g):g ∈ zB A:=by
 cases A with
 | none=>cases h
 | some a=>injection h with h;simp [zB,h]
theorem in_ob {A:Option mB} {n c g:Nat} (h:g ∈ zB A):(zE A n c).ownBlock=yA g:=by
 cases A with
 | none=>simp [zB] at h
 | some a=>simp [zB] at h;rw [h];rfl
theorem zPd (Q base:Nat) (A:Option mB) (c:Nat) (xs:List Ne) (x1 x2 x3:Int) (w:uA) (h:yN w Q base A c xs) (hm:xs.length<1000000) (hb:base<=w.heap.size):Calls prog 176 #[.pointer (yA ⟨Q,0,none⟩),.agg #[x1,x2,x3]] w fun e w'=>e=.returned (.tuple #[])/\∃ A' c',yN w' Q base A' c' (zHs (xs.length+1) (xs ++ [(x1,x2,x3)]) xs.length)/\Below base w w':=by
 obtain ⟨n,hn⟩:∃ n,n=xs.length:=⟨_,rfl⟩
 rw [<- hn] at hm ⊢
 obtain ⟨N,hN⟩:∃ N,N=w.heap.size:=⟨_,rfl⟩
 have hbw:=cC base w
 have ha:=hbw.alloc hb (vN x1 x2 x3)
 have gQ:=kA (wA w (vN x1 x2 x3)) h.blk
 have gN:=rB w (vN x1 x2 x3)
 have hrow:=jB h.row (wA w (vN x1 x2 x3))
 have hsz:(w.alloc (vN x1 x2 x3)).heap.size=w.heap.size+1:=wB _ _
 have hQl:Q<w.heap.size:=(nJ h.blk).2.2.2.2
 have hAw:∀ g ∈ zB A,g<w.heap.size:=fun g hg=>(qC h.row g hg).2
 have hfar:=h.far
 have hbase:=h.base
 rw [<- hN] at gN hsz hQl hAw
 rw [<- hn] at gQ hrow
 obtain ⟨w1,hw1⟩:∃ w1,w1=w.alloc (vN x1 x2 x3):=⟨_,rfl⟩
 rw [<- hw1] at ha gQ gN hrow hsz
 have HW1:=fA hw1
 have HNN:=fA hN
 clear hw1
 obtain ⟨q0,q1,qf0,qf1,qlt⟩:=nJ gQ
 obtain ⟨n0,n1,n2,nf0,nf1,nf2,nlt⟩:=vH gN
 have hQN:Q≠N:=by omega
 have ha2:=wA w1 (vN x1 x2 x3)
 have HN3:jC (∀ W,W=(w1.alloc (vN x1 x2 x3)).drew -> W.cell? ⟨N,0,none⟩=yA (.int .i64 x1)/\W.cell? ⟨N,1,none⟩=yA (.int .i64 x2)/\W.cell? ⟨N,2,none⟩=yA (.int .i64 x3)):=fA fun W hW=>by
  rw [hW]
  obtain ⟨a0,a1,a2,_,_,_,_⟩:=vH (kA ha2 gN)
  exact ⟨a0,a1,a2⟩
 have hqc2:∀ (W:uA) (v:uB),(W.cell? ⟨N,0,none⟩=yA (.int .i64 x1)/\W.cell? ⟨N,1,none⟩=yA (.int .i64 x2)/\W.cell? ⟨N,2,none⟩=yA (.int .i64 x3)) -> (W.setCell ⟨Q,0,none⟩ v).cell? ⟨N,0,none⟩=yA (.int .i64 x1)/\(W.setCell ⟨Q,0,none⟩ v).cell? ⟨N,1,none⟩=yA (.int .i64 x2)/\(W.setCell ⟨Q,0,none⟩ v).cell? ⟨N,2,none⟩=yA (.int .i64 x3):=fun W v h=>⟨(oE W ⟨Q,0,none⟩ ⟨N,0,none⟩ v hQN).trans h.1,(oE W ⟨Q,0,none⟩ ⟨N,1,none⟩ v hQN).trans h.2.1,(oE W ⟨Q,0,none⟩ ⟨N,2,none⟩ v hQN).trans h.2.2⟩
 have HR2:=fA (sI (jB hrow ha2))
 have HR3:jC (dC (w1.alloc (vN x1 x2 x3)).drew (yA ⟨w1.heap.size,0,none⟩) [.int .i64 x1,.int .i64 x2,.int .i64 x3]):=fA (dC.new w1 #[x1,x2,x3] 258)
 have hb2:base<=(w1.alloc (vN x1 x2 x3)).drew.heap.size:=pA hb (pA ha.size ha2.size)
 have HAP:jC (∀ A2 c2 w3,w3.ownsRow base 258 3 (.slice A2 (n+1) c2) (n+1) (flat zDO xs ++ [.int .i64 x1,.int .i64 x2,.int .i64 x3]) -> (w1.alloc (vN x1 x2 x3)).drew.grownBy w3 (zE A n c).ownBlock -> ((zE A2 (n+1) c2).ownBlock=(zE A n c).ownBlock\/(zE A2 (n+1) c2).ownBlock=yA (w1.alloc (vN x1 x2 x3)).drew.heap.size) ->
   w3.cell? ⟨N,0,none⟩=yA (.int .i64 x1)/\w3.cell? ⟨N,1,none⟩=yA (.int .i64 x2)/\w3.cell? ⟨N,2,none⟩=yA (.int .i64 x3)/\w3.heap[Q]?=yA (.cells #[.slice A n c,.func (.func 239) #[] #[]] 335)/\yN (w3.setCell ⟨Q,0,none⟩ (.slice A2 (n+1) c2)) Q base A2 c2 (xs ++ [(x1,x2,x3)])/\Below base w (w3.setCell ⟨Q,0,none⟩ (.slice A2 (n+1) c2))):=fA fun A2 c2 w3 hown hg hat=>by
  have e1:(zE A n c).ownBlock≠yA Q:=fun he=>hfar (zRf he)
  have e2:(zE A n c).ownBlock≠yA N:=by
   intro he
   have:N ∈ zB A:=zRf he
   exact absurd (hAw _ this) (by omega)
  have s2:(w1.alloc (vN x1 x2 x3)).drew.heap.size=w1.heap.size+1:=wB _ _
  have e3:Q ∉ zB A2:=by
   intro hq
   have e4:(zE A2 (n+1) c2).ownBlock=yA Q:=in_ob hq
   rcases hat with h1 | h1
   ·exact e1 (h1 ▸ e4)
   ·rw [e4] at h1;injection h1 with h1;omega
  have g1:=zDo hg (heap_drew (kA ha2 gN)) e2
  have g2:=zDo hg (heap_drew (kA ha2 gQ)) e1
  obtain ⟨a0,a1,a2,_,_,_,_⟩:=vH g1
  have hB3:=Below.appended ((ha.trans (ha2.mono (pA hb ha.size))).drew) HR2.out hg hb2 (mA _)
  refine ⟨a0,a1,a2,g2,⟨?_,?_,e3,hbase⟩,hB3.setCell (p:=⟨Q,0,none⟩) hbase _⟩
  ·rw [kB,<- hn]
   exact zD g2 _
  ·have hf:flat zDO (xs ++ [(x1,x2,x3)])=flat zDO xs ++ [.int .i64 x1,.int .i64 x2,.int .i64 x3]:=by simp [flat,zDO]
   rw [kB,<- hn,hf]
   exact rE hown (fun x hx he=>e3 (by rw [<- he];exact hx)) 0 _
 have HUP:jC (∀ A2 c2 W4,yN W4 Q base A2 c2 (xs ++ [(x1,x2,x3)]) -> Below base w W4 -> Calls prog 243 #[.pointer (yA ⟨Q,0,none⟩)] W4 fun e w'=>e=.returned (.tuple #[])/\yN w' Q base A2 c2 (zHs (n+1) (xs ++ [(x1,x2,x3)]) n)/\Below base w w'):=fA fun A2 c2 W4 h1 h2=>by
  have hl:(xs ++ [(x1,x2,x3)]).length=n+1:=by rw [kB,<- hn];rfl
  have:=zRS Q base A2 c2 _ W4 h1 (by omega) (by omega) (pA hb h2.size)
  rw [hl] at this
  exact this.mono fun e w' q=>⟨q.1,q.2.1,h2.trans q.2.2⟩
 clear h hrow gN ha ha2 hn hN hsz hAw hfar hbw hQl
 go_enter func176,ntmps176
 go_wp2
 rw [<- HNN.out,<- HW1.out]
 refine iC (S:=fun W:uA=>W.cell? ⟨N,0,none⟩=yA (.int .i64 x1)/\W.cell? ⟨N,1,none⟩=yA (.int .i64 x2)/\W.cell? ⟨N,2,none⟩=yA (.int .i64 x3)) [] ⟨n0,n1,n2⟩ fun hH => ?_
 refine gU [100,101,102,103,104,106] ?_
 refine bU 5 7 (fun K hK => ?_) ?_
 ·go_simp
  refine hK.out _ _ hH fun hH => ?_
  clear hK K
  try simp only [nP]
  refine oU 7 fun K hK => ?_
  go_simp
  refine hK.out _ _ (HN3.out _ rfl) fun hH => ?_
  clear hK K
  try simp only [nP]
  refine oU 8 fun K hK => ?_
  refine tG (.tmp 9) (.tmp 11) rfl zJR base (.slice A n c) n (flat zDO xs) (by rfl) HR2.out (yA ⟨w1.heap.size,0,none⟩) 1 1 [.int .i64 x1,.int .i64 x2,.int .i64 x3] (by rfl) rfl HR3.out (by simp [qE]) (by unfold maxLen;omega) (by omega) hb2 (fun h=>by cases h) ?_
  intro A2 c2 w3 hown hg hat
  obtain ⟨m0,m1,m2,hq2,HP,HB⟩:=HAP.out A2 c2 w3 hown hg hat
  refine hK.out _ _ ⟨m0,m1,m2⟩ fun hH => ?_
  clear hK K
  try simp only [nP]
  refine gU [109,110,111] ?_
  refine oU 12 fun K hK => ?_
  have hqf:=qB hq2 0
  have hqv:=jA hq2 0
  go_simp
  refine hK.out _ _ (hqc2 _ _ ⟨m0,m1,m2⟩) fun hH => ?_
  clear hK K
  try simp only [nP]
  refine gU [300] ?_
  clear hH
  obtain ⟨W4,hW4⟩:∃ W4,W4=w3.setCell ⟨Q,0,none⟩ (.slice A2 (n+1) c2):=⟨_,rfl⟩
  have HU:=HUP.out A2 c2 W4 (by rw [hW4];exact HP) (by rw [hW4];exact HB)
  rw [<- hW4]
  clear hW4 hqf hqv hq2 m0 m1 m2 hg hown hat
  go_wp2_with (go_at_call 243;refine HU.mono ?_;rintro e w5 ⟨rfl,hHp,hB5⟩)
  go_end0
  exact ⟨rfl,A2,c2,hHp,hB5⟩
 intro K hK
 go_simp
 refine hK.out _ _ (HN3.out _ rfl) fun hH => ?_
 clear hK K
 try simp only [nP]
 refine oU 5 fun K hK => ?_
 go_simp
 refine hK.out _ _ hH fun hH => ?_
 clear hK K
 try simp only [nP]
 refine oU 8 fun K hK => ?_
 refine tG (.tmp 9) (.tmp 11) rfl zJR base (.slice A n c) n (flat zDO xs) (by rfl) HR2.out (yA ⟨w1.heap.size,0,none⟩) 1 1 [.int .i64 x1,.int .i64 x2,.int .i64 x3] (by rfl) rfl HR3.out (by simp [qE]) (by unfold maxLen;omega) (by omega) hb2 (fun h=>by cases h) ?_
 intro A2 c2 w3 hown hg hat
 obtain ⟨m0,m1,m2,hq2,HP,HB⟩:=HAP.out A2 c2 w3 hown hg hat
 refine hK.out _ _ ⟨m0,m1,m2⟩ fun hH => ?_
 clear hK K
 try simp only [nP]
 refine gU [109,110,111] ?_
 refine oU 12 fun K hK => ?_
 have hqf:=qB hq2 0
 have hqv:=jA hq2 0
 go_simp
 refine hK.out _ _ (hqc2 _ _ ⟨m0,m1,m2⟩) fun hH => ?_
 clear hK K
 try simp only [nP]
 refine gU [300] ?_
 clear hH
 obtain ⟨W4,hW4⟩:∃ W4,W4=w3.setCell ⟨Q,0,none⟩ (.slice A2 (n+1) c2):=⟨_,rfl⟩
 have HU:=HUP.out A2 c2 W4 (by rw [hW4];exact HP) (by rw [hW4];exact HB)
 rw [<- hW4]
 clear hW4 hqf hqv hq2 m0 m1 m2 hg hown hat
 go_wp2_with (go_at_call 243;refine HU.mono ?_;rintro e w5 ⟨rfl,hHp,hB5⟩)
 go_end0
 exact ⟨rfl,A2,c2,hHp,hB5⟩
end Go.Proofs.YtogbpifcmhafkaaGreat
