/-
 Part PZO of the proof.
-/
import Derived.Test.YtogbpifcmhafkaaGreatPZM
open Go renaming World->uA
open Go.Instr renaming lookup->eE
open Go.Lib renaming hid->fA
open Go.Lit renaming int->cE
open Go.RowKit renaming Hid->jC
open List renaming length_append->kB,length_drop->vD,length_set->lD,length_take->sB,mem_append->xD,mem_of_mem_drop->wG,mem_of_mem_take->tL,mem_singleton->xB
open Nat renaming le_add_right->mF,le_refl->mA,le_trans->pA,zero_le->vC
open Option renaming some->yA
namespace Go.Proofs.YtogbpifcmhafkaaGreat
open Go.RowKit Tryz
open Go.Lib(hid)
set_option linter.unusedVariables false
set_option linter.unusedSimpArgs false
set_option maxRecDepth 100000
set_option maxHeartbeats 16000000
theorem zIG (xs:List Rp) (x:Rp):∀ y ∈ zDd xs x,y=x\/y ∈ xs:=fun y hy=>by
 unfold zDd at hy
 split at hy
 ·rcases List.mem_or_eq_of_mem_set hy with h | h
  ·exact .inr h
  ·exact .inl h
 ·simp only [xD,xB] at hy
  rcases hy with (h | h) | h
  ·exact .inr (tL h)
  ·exact .inl h
  ·exact .inr (wG h)
theorem oY (xs:List Rp):∀ y ∈ rD xs,y ∈ xs:=fun y hy=>by
 unfold rD at hy
 split at hy
 ·exact hy
 ·cases hy
theorem zGK (xs:List Rp) (t ver sm room:Int) (h:xs.length<=16) (hr:room<=16):(wO xs (t,ver,sm,false,false) room).1.length<=16:=by
 have hfl:=jL xs
 unfold wO
 split
 ·exact vC _
 split
 ·exact vC _
 split
 ·exact vC _
 split
 ·exact vC _
 ·rename_i hB
  dsimp only at hB ⊢
  have hp:=zDe (rD xs) (t,ver,sm,true,false)
  cases hb:kL (rfn (rD xs) (t,0,0,true,false)) (rD xs).length with
  | true =>
   unfold zDd
   have hk:zOt (t,ver,sm,true,false)=(t,0,0,true,false):=rfl
   rw [hk,hb,if_pos rfl,lD]
   omega
  | false =>
   have:¬ room<=((rD xs).length:Int):=fun q=>hB ⟨hb,q⟩
   omega
theorem zJt (xs:List Rp) (x:Rp) (room:Int):∀ y ∈ (wO xs x room).1,y.1=x.1\/y ∈ xs:=fun y hy=>by
 unfold wO at hy
 split at hy
 ·cases hy
 split at hy
 ·cases hy
 split at hy
 ·cases hy
 split at hy
 ·cases hy
 ·rcases zIG _ _ y hy with h | h
  ·exact .inl (by rw [h])
  ·exact .inr (oY xs y h)
theorem zJH (xs:List Rp) (t v:Int):(zM xs t v).1.length<=xs.length:=by
 have hfl:=jL xs
 unfold zM
 split
 ·rename_i hB
  have hlt:dG (rfn (rD xs) (t,0,0,true,false)) 0 (rD xs).length<(rD xs).length:=by unfold kL at hB;simp at hB;exact hB.1
  split
  ·refine pA (zDe _ _) ?_
   simp only [kB,sB,vD]
   omega
  ·exact vC _
 ·exact vC _
theorem zHP (xs : List Rp) (t v : Int) : ∀ y ∈ (zM xs t v).1, ∃ z ∈ xs, y.1 = z.1 := fun y hy => by
 unfold zM at hy
 split at hy
 ·rename_i hB
  have hlt:dG (rfn (rD xs) (t,0,0,true,false)) 0 (rD xs).length<(rD xs).length:=by unfold kL at hB;simp at hB;exact hB.1
  split at hy
  ·rcases zIG _ _ y hy with h | h
   ·rw [List.getD_eq_getElem?_getD,List.getElem?_eq_getElem hlt] at h
    exact ⟨_,oY xs _ (List.getElem_mem hlt),by rw [h];rfl⟩
   ·rw [xD] at h
    rcases h with h | h
    ·exact ⟨y,oY xs _ (tL h),rfl⟩
    ·exact ⟨y,oY xs _ (wG h),rfl⟩
  ·cases hy
 ·cases hy
theorem bH.begin {v:Sv} (h:bH v) {t ver sm:Int} {d:List UInt8} (ht:(cE .i64 t).wf=true) (hd:d.length<=64):bH (v.begin t ver sm d).1:=by
 unfold Sv.begin
 split
 ·exact h
 split
 ·exact h
 split
 ·exact ⟨h.room,zGK _ _ _ _ _ h.l h.room,fun x hx=>(zJt _ _ _ x hx).elim (fun e=>by rw [e];exact ht) (h.ids x),mZ (P:=fun d:List UInt8=>d.length<=64) h.f hd⟩
 ·exact h
theorem bH.commit {v:Sv} (h:bH v) (t ver:Int):bH (v.commit t ver).1:=by
 unfold Sv.commit
 split
 ·exact ⟨h.room,pA (zJH _ _ _) h.l,fun x hx=>by obtain ⟨z,hz,e⟩:=zHP _ _ _ x hx;rw [e];exact h.ids z hz,mZ (P:=fun d:List UInt8=>d.length<=64) (mZ (P:=fun d:List UInt8=>d.length<=64) h.f (h.f t true)) (by decide)⟩
 ·exact h
theorem bH.wipe {v:Sv} (h:bH v):bH v.wipe:=⟨h.room,vC _,fun x hx=>(by cases hx),fun _ _=>vC _⟩
theorem bH.spoil {v:Sv} (h:bH v) (t bit:Int):bH (v.spoil t bit).1:=by
 unfold Sv.spoil
 split
 ·exact h
 ·exact ⟨h.room,h.l,h.ids,mZ (P:=fun d:List UInt8=>d.length<=64) h.f (by rw [lD];exact h.f t false)⟩
theorem bH.newSv (d:Int):bH (newSv d):=⟨by unfold Go.Proofs.YtogbpifcmhafkaaGreat.newSv;dsimp only;omega,vC _,fun x hx=>(by cases hx),fun _ _=>vC _⟩
def Sv.take (v:Sv) (t ver sm:Int) (d:List UInt8):Sv × Bool:=if (v.begin t ver sm d).2=0 then (((v.begin t ver sm d).1.commit t ver).1,decide (((v.begin t ver sm d).1.commit t ver).2=0)) else ((v.begin t ver sm d).1,false)
theorem bH.take {v:Sv} (h:bH v) {t ver sm:Int} {d:List UInt8} (ht:(cE .i64 t).wf=true) (hd:d.length<=64):bH (v.take t ver sm d).1:=by
 unfold Sv.take
 split
 ·exact (h.begin ht hd).commit t ver
 ·exact h.begin ht hd
theorem zDH (R : Nat -> Prop) (C : Nat) (L : CL) (c : Cl) (k : Int) (H s : Nat) (S : SL) (v : zHu) (t ver sm : Int) (A : Option Addr) (ca : Nat) (d : List UInt8) (w : uA) (h : iG R w C L c) (hk : L.hb k = yA (H, s, S)) (hv : c.h k = yA v) (ho : bH v.s) (hR : ∀ x, w.heap.size <= x -> R x) (ht : (cE .i64 t).wf = true) (m : Nat) (hm : L.ok m) (hm2 : m + 1 < 1000000) (hd : bJ w A d) (hz : A = none -> d.length = 0) (hdl : d.length <= 64) (hA : ∀ x ∈ zB A, ¬ L.own C x) :
  Calls prog 61 #[(H,0),t,ver,.int .u32 sm,.slice A d.length ca] w (lL R C L 2 w (.bool (v.s.take t ver sm d).2) { c with h:=eH c.h k (yA ⟨(v.s.take t ver sm d).1,v.up⟩) }):=by
 have HH:=fA h
 obtain ⟨g1,g2⟩:=h.ho k H s S v hk hv
 have e0:=jA g1 0
 have hSn:S.n<=m:=hm.2 k _ hk
 have HB:=fA (zIZ _ s S v.s t ver sm A ca d w g2 ho (fun x hx=>⟨hR x hx,fun q=>by have:=h.own_lt q;omega⟩) ht (by omega) hd hz (by omega) (fun x hx e=>hA x hx (.inr (.inr (.inr ⟨k,H,s,S,hk,.inr (.inl e)⟩)))))
 have hob:=ho.begin (t:=t) (ver:=ver) (sm:=sm) ht hdl
 have HC:jC (∀ w1 S',qI (fun x=>R x/\¬ L.own C x) s S S' (v.s.begin t ver sm d).1 w w1 -> S'.n<=S.n+1 -> Calls prog 129 #[.pointer (yA ⟨s,0,none⟩),t,ver] w1 fun e w'=>e=.returned (.int .i64 ((v.s.begin t ver sm d).1.commit t ver).2)/\∃ L',rC R C L L' { c with h:=eH c.h k (yA ⟨((v.s.begin t ver sm d).1.commit t ver).1,v.up⟩) } w w'/\∀ m,L.ok m -> L'.ok (m+2)):=fA fun w1 S' st hq=>by
  have h1:=h.host hk hv st
  obtain ⟨g3,g4⟩:=h1.at_.ho k H s S' _ (iF _ _ _) (iF _ _ _)
  have hw1:=h1.chg.size
  refine (zHp _ s S' _ t ver w1 g4 hob (fun x hx=>⟨hR x (pA hw1 hx),fun q=>by have:=h1.at_.own_lt q;omega⟩) ht (by omega)).mono ?_
  rintro e w2 ⟨rfl,S2,st2,hq2⟩
  have h2:=h1.at_.host (k:=k) (iF _ _ _) (iF _ _ _) st2
  refine ⟨rfl,_,h1.trans ?_,fun m hm=>(hm.set hk hq).set (k:=k) (iF _ _ _) hq2⟩
  simpa only [zGw] using h2
 have HF:jC (∀ w1 S',qI (fun x=>R x/\¬ L.own C x) s S S' (v.s.begin t ver sm d).1 w w1 -> S'.n<=S.n+1 -> w1.cell? ⟨H,0,none⟩=yA (.pointer (yA ⟨s,0,none⟩))/\∃ L',rC R C L L' { c with h:=eH c.h k (yA ⟨(v.s.begin t ver sm d).1,v.up⟩) } w w1/\∀ m,L.ok m -> L'.ok (m+2)):=fA fun w1 S' st hq=>by
  have h1:=h.host hk hv st
  obtain ⟨g3,g4⟩:=h1.at_.ho k H s S' _ (iF _ _ _) (iF _ _ _)
  exact ⟨jA g3 0,_,h1,fun m hm=>(hm.set hk hq).mono (Nat.le_succ _)⟩
 clear h g1 g2 hd hz hob hm
 unfold Sv.take
 generalize v.s.begin t ver sm d=z at *
 obtain ⟨v1,e1⟩:=z
 dsimp only at *
 generalize v1.commit t ver=z2 at *
 obtain ⟨v2,e2⟩:=z2
 dsimp only at *
 by_cases h1:e1=0
 ·subst h1
  rw [if_pos rfl]
  dsimp only
  by_cases h2:e2=0
  ·subst h2
   go_enter func61,ntmps61
   go_wp2_with (first
    | (go_at_call 128;refine HB.out.mono ?_;rintro e w1 ⟨rfl,S',st,hq⟩;obtain ⟨e3,_⟩:=HF.out w1 S' st hq)
    | (go_at_call 129;refine (HC.out w1 S' st hq).mono ?_;rintro e w2 ⟨rfl,L',st2,hm2⟩))
   go_ret
   exact ⟨rfl,L',st2,hm2⟩
  ·go_enter func61,ntmps61
   go_wp2_with (first
    | (go_at_call 128;refine HB.out.mono ?_;rintro e w1 ⟨rfl,S',st,hq⟩;obtain ⟨e3,_⟩:=HF.out w1 S' st hq)
    | (go_at_call 129;refine (HC.out w1 S' st hq).mono ?_;rintro e w2 ⟨rfl,L',st2,hm2⟩))
   go_ret
   exact ⟨bC (by simp [h2]),L',st2,hm2⟩
 ·rw [if_neg h1]
  go_enter func61,ntmps61
  go_wp2_with (go_at_call 128;refine HB.out.mono ?_;rintro e w1 ⟨rfl,S',st,hq⟩;obtain ⟨e3,L',st2,hm2⟩:=HF.out w1 S' st hq)
  go_ret
  exact ⟨rfl,L',st2,hm2⟩
theorem iG.setLs {R:Nat -> Prop} {w w7:uA} {C:Nat} {L:CL} {c:Cl} (h:iG R w C L c) (hR:∀ x,w.heap.size<=x -> R x) {base:Nat} {A:Option Addr} {a:Nat} {l:List Le} (hb:Below w.heap.size w w7) (own:w7.ownsRow base 176 5 (.slice A l.length a) l.length (flat vU l)) (hbase:w.heap.size<=base) (hm:l.length<=1000000) :
  rC R C L { L with lA:=A,lc:=a } { c with ls:=l } w (w7.setCell ⟨C,4,none⟩ (.slice A l.length a)):=by
 have hC:fD [C] w7 (w7.setCell ⟨C,4,none⟩ (.slice A l.length a)):=(fD.refl _ w7).setCell (.inl (by simp)) 4 _
 have h3:=h.below hb
 have gF:(w7.setCell ⟨C,4,none⟩ (.slice A l.length a)).heap[C]?=yA (zNm (.slice L.nA c.ns.length L.nc) (.slice L.cA c.cs.length L.cc) (.slice L.bA c.bs.length L.bc) (.slice A l.length a) (.slice L.dA c.ds.length L.dc) c.r c.t L.M (.slice L.eA c.net.length L.ec)):=by simpa using zD (i:=4) h3.blk (.slice A l.length a)
 have hCl:C<w.heap.size:=eB h.blk
 have rl:vS (L.rd R (w7.setCell ⟨C,4,none⟩ (.slice A l.length a)) C) vU (w7.setCell ⟨C,4,none⟩ (.slice A l.length a)) A a l:=(((vS.of_own own hm).chg hC fun x hx q=>by rw [xB] at q;have:=hx.1;omega)).mono fun x hx=>zBl h hR (pA hbase hx.1) (Nat.lt_of_lt_of_le hx.2 hC.size)
 exact (rC.refl h hb).trans (h3.upd (L':={ L with lA:=A,lc:=a }) (c':={ c with ls:=l }) hC rfl rfl rfl rfl rfl rfl rfl gF (h3.kn hC (wP C L)) (h3.kc hC (wP C L)) (h3.kb hC (wP C L)) rl (h3.kd hC (wP C L)))
theorem rC.keep {R:Nat -> Prop} {w w':uA} {C:Nat} {L L':CL} {c c':Cl} (h:iG R w C L c) (st:rC R C L L' c' w w') {x:Nat} {o:Obj} (hx:w.heap[x]?=yA o) (hn:¬ L.own C x):w'.heap[x]?=yA o:=by
 obtain ⟨T,hT,hC⟩:=st.chg.list
 exact hC.keep hx fun q=>hn (hT _ q).1
theorem zHW (xs:List Le) (t n:Int):(zAZ xs t n).1.length<=xs.length:=by
 unfold zAZ
 split
 ·exact vC _
 ·rename_i h
  rcases fM (lkey t n) xs 0 with ⟨e,_⟩ | ⟨k,hk,e,_⟩
  ·rw [e] at h;exact absurd h (by decide)
  ·rw [e]
   simp only [kB,sB,vD]
   omega
theorem zEZ {v:Sv} (h:bH v) (t:Int):(v.read t).1.length<=64:=by
 unfold Sv.read
 cases v.heldL.find? (fun x=>decide (x.1.1=t)) with
 | none=>exact vC _
 | some x =>
  simp only [Option.map_some,Option.getD_some]
  unfold Sv.readOf
  split
  ·exact vC _
  ·exact h.f _ _
def Cl.copyZ (c:Cl) (o:Od) (ver:Int) (z:List Le × Int):Cl:=((if z.2=0 then { c with ls:=z.1 } else c).knw 5 o.2.1 o.2.2.2.2.2.1 ver).1
def Cl.copyY (c:Cl) (o:Od) (k:Int) (up:Bool) (ver:Int) (y:Sv × Bool):Cl:=if y.2=false then { c with h:=eH c.h k (yA ⟨y.1,up⟩) } else Cl.copyZ { c with h:=eH c.h k (yA ⟨y.1,up⟩) } o ver (zAZ c.ls o.2.1 o.2.2.2.2.2.1)
def Cl.copyT (c:Cl) (o:Od) (k:Int) (v:zHu) (x:List UInt8 × Int × Int):Cl:=if x.2.2=0/\x.2.1=o.2.2.1/\U (sum x.1)=o.2.2.2.1 then c.copyY o k v.up x.2.1 (v.s.take o.2.1 x.2.1 o.2.2.2.1 x.1) else c
def Cl.copies (c:Cl) (o:Od) (k:Int) (v:zHu):Cl:=match c.h o.2.2.2.2.1 with
 | none=>c
 | some f=>if f.up=false then c else if c.toldP o.2.1 o.2.2.2.2.2.1 then c else c.copyT o k v (f.s.read o.2.1)
theorem zGP (R:Nat -> Prop) (C:Nat) (L:CL) (c:Cl) (o1 o2 o3 o4 o5 o6 o7 k:Int) (H s:Nat) (S:SL) (v:zHu) (w:uA) (h:iG R w C L c) (hk:L.hb k=yA (H,s,S)) (hv:c.h k=yA v) (ho:∀ k v,c.h k=yA v -> bH v.s) (hR:∀ x,w.heap.size<=x -> R x) (ht:(cE .i64 o2).wf=true) (ht5:(cE .i64 o5).wf=true) (m:Nat) (hm:L.ok m) (hm2:m+1<1000000) :
  Calls prog 110 #[.pointer (yA ⟨C,0,none⟩),.agg #[o1,o2,o3,.int .u32 o4,o5,o6,o7],.pointer (yA ⟨H,0,none⟩)] w (lL R C L 2 w (.tuple #[]) (c.copies (o1,o2,o3,o4,o5,o6,o7) k v)):=by
 have hal:=wA w (.cells #[o1,o2,o3,.int .u32 o4,o5,o6,o7] 105)
 have gX:=rB w (.cells #[o1,o2,o3,.int .u32 o4,o5,o6,o7] 105)
 have hWw:=hal.size
 have HO:=fA ho
 have HR:=fA hR
 have HV:=fA (ho k v hv)
 have HKV:=fA (And.intro hk hv)
 have HM:=fA hm
 have hnX:¬ L.own C w.heap.size:=fun q=>by have:=h.own_lt q;omega
 have HH:=fA h
 have gC:=kA hal h.blk
 have hlk:=(h.below hal.drew).mp.look ht5
 have c13:=jA gC 13
 have x1:=jA gX 1
 have x4:=jA gX 4
 have x5:=jA gX 5
 have HT:=fA (fun V (hb:Below w.heap.size w V)=>zEo R C L c o2 o6 V (h.below hb))
 have HX:=fA gX
 have HZ:jC (c.copies (o1,o2,o3,o4,o5,o6,o7) k v=match c.h o5 with
  | none=>c
  | some f=>if f.up=false then c else if c.toldP o2 o6 then c else c.copyT (o1,o2,o3,o4,o5,o6,o7) k v (f.s.read o2)):=fA rfl
 have HS1:jC ((fun V:uA=>V.cell? ⟨C,13,none⟩=yA (.map (yA L.M))/\V.cell? ⟨w.heap.size,4,none⟩=yA (.int .i64 o5)/\(eE 46 (.map (yA L.M)) (.int .i64 o5) false).run prog V=.ok (hkey (L.hb o5)) V) (w.alloc (.cells #[o1,o2,o3,.int .u32 o4,o5,o6,o7] 105)).drew):=fA ⟨c13,x4,hlk⟩
 have hfn:=h.hn o5
 have HKN:=fA (fun (V:uA) (L':CL) (c':Cl) (q:Int) (h':iG R V C L' c') (hs:w.heap.size<=V.heap.size)=>sQ R C L' c' 0 5 o2 o6 q V h' (fun x hx=>hR x (pA hs hx)) (by decide))
 generalize hfe:hkey (L.hb o5)=fv at *
 clear h gC gX ho hR hm hv hk hlk c13
 go_enter func110,ntmps110
 go_wp2_with fail
 refine iC (S:=fun V:uA=>V.cell? ⟨C,13,none⟩=yA (.map (yA L.M))/\V.cell? ⟨w.heap.size,4,none⟩=yA (.int .i64 o5)/\(eE 46 (.map (yA L.M)) (.int .i64 o5) false).run prog V=.ok fv V) [] HS1.out fun hH => ?_
 refine gU [0,1,2,103,4,105,106,7,300] ?_
 clear hH
 have HWD:jC ((w.alloc (.cells #[o1,o2,o3,.int .u32 o4,o5,o6,o7] 105)).drew.heap.size=(w.alloc (.cells #[o1,o2,o3,.int .u32 o4,o5,o6,o7] 105)).heap.size/\∀ V,Below (w.alloc (.cells #[o1,o2,o3,.int .u32 o4,o5,o6,o7] 105)).drew.heap.size (w.alloc (.cells #[o1,o2,o3,.int .u32 o4,o5,o6,o7] 105)).drew V -> Below w.heap.size w V):=fA ⟨rfl,fun V hb=>hal.drew.trans (hb.mono hal.size)⟩
 have g0:=iB HX.out
 have HC0:jC (iG R (w.alloc (.cells #[o1,o2,o3,.int .u32 o4,o5,o6,o7] 105)).drew C L c):=fA (HH.out.below hal.drew)
 generalize (w.alloc (.cells #[o1,o2,o3,.int .u32 o4,o5,o6,o7] 105)).drew=W at *
 have xx1:=jA g0 1
 have xx5:=jA g0 5
 have GX:=fA g0
 clear x1 x4 x5 g0
 cases hh:L.hb o5 with
 | none =>
  have HZ2:jC (c.copies (o1,o2,o3,o4,o5,o6,o7) k v=c):=fA (by rw [HZ.out,hfn.1 hh])
  obtain rfl:fv=.pointer none:=by rw [<- hfe,hh];rfl
  go_wp2
  go_end0
  rw [HZ2.out]
  exact ⟨rfl,L,rC.refl HH.out (HWD.out.2 _ (xC _)),fun m h=>h.mono (mF _ _)⟩
 | some a =>
  obtain ⟨H5,s5,S5⟩:=a
  cases hv5:c.h o5 with
  | none=>rw [hfn.2 hv5] at hh;cases hh
  | some f =>
   obtain rfl:fv=.pointer (yA ⟨H5,0,none⟩):=by rw [<- hfe,hh];rfl
   obtain ⟨g1,g2⟩:=HC0.out.ho o5 H5 s5 S5 f hh hv5
   have e1:=jA g1 1
   have e0:=jA g1 0
   have G1:=fA g1
   have HR5:=fA (fun V (hb:Below W.heap.size W V)=>zFl _ s5 S5 f.s o2 V ((HC0.out.below hb).ho o5 H5 s5 S5 f hh hv5).2 (HO.out o5 f hv5) ht)
   have hrl:=zEZ (HO.out o5 f hv5) o2
   have HZ1:=fA HZ.out
   rw [hv5] at HZ1
   dsimp only at HZ1
   clear g1 g2 hfn HZ
   cases hu:f.up with
   | false =>
    have HZ2:jC (c.copies (o1,o2,o3,o4,o5,o6,o7) k v=c):=fA (by rw [HZ1.out,hu];rfl)
    rw [hu] at e1
    go_wp2
    go_end0
    rw [HZ2.out]
    exact ⟨rfl,L,rC.refl HH.out (HWD.out.2 _ (xC _)),fun m h=>h.mono (mF _ _)⟩
   | true =>
    rw [hu] at e1
    have HZ3:=fA HZ1.out
    rw [hu,if_neg (by decide)] at HZ3
    clear HZ1
    generalize c.toldP o2 o6=tp at *
    cases tp with
    | true =>
     have HZ2:jC (c.copies (o1,o2,o3,o4,o5,o6,o7) k v=c):=fA (by rw [HZ3.out];rfl)
     go_wp2_with (go_at_call 66;refine (HT.out _ (HWD.out.2 _ (xC _))).mono ?_;rintro e w2 ⟨rfl,hb2⟩)
     go_end0
     rw [HZ2.out]
     exact ⟨rfl,L,rC.refl HH.out (HWD.out.2 _ hb2),fun m h=>h.mono (mF _ _)⟩
    | false =>
     have HZ2:jC (c.copies (o1,o2,o3,o4,o5,o6,o7) k v=c.copyT (o1,o2,o3,o4,o5,o6,o7) k v (f.s.read o2)):=fA (by rw [HZ3.out];rfl)
     clear HZ3
     generalize f.s.read o2=z at *
     obtain ⟨ds,ver,er⟩:=z
     dsimp only at hrl
     go_wp2_with (go_at_call 66;refine (HT.out _ (HWD.out.2 _ (xC _))).mono ?_;rintro e w2 ⟨rfl,hb2⟩)
     have HS3:jC (∀ V,Below W.heap.size W V -> (fun V:uA=>V.cell? ⟨H5,0,none⟩=yA (.pointer (yA ⟨s5,0,none⟩))/\V.cell? ⟨w.heap.size,1,none⟩=yA (.int .i64 o2)) V):=fA fun V hb=>⟨jA (kA hb G1.out) 0,jA (kA hb GX.out) 1⟩
     clear xx1 xx5 e1 e0 HT
     have hb2d:Below W.heap.size W w2.drew:=hb2.drew
     refine iC (S:=fun V:uA=>V.cell? ⟨H5,0,none⟩=yA (.pointer (yA ⟨s5,0,none⟩))/\V.cell? ⟨w.heap.size,1,none⟩=yA (.int .i64 o2)) [] (HS3.out _ hb2d) fun hH => ?_
     refine gU [0,1,2,103,4,105] ?_
     refine oU 6 fun K hK => ?_
     go_simp
     go_at_call 31
     refine (HR5.out _ hb2d).mono ?_
     rintro e w4 ⟨A4,c4,rfl,own4,hb4⟩
     have hbW4:=hb2d.trans (hb4.mono hb2d.size)
     refine hK.out _ _ (HS3.out w4 hbW4) fun hH => ?_
     clear hK K
     refine gU [7,8,9,10,11,12,13,300] ?_
     clear hH
     have hb04:=HWD.out.2 _ hbW4
     have hsz4:=hb04.size
     have GX4:=fA (kA hbW4 GX.out)
     have HH4:=fA (HH.out.below hb04)
     have hCB:bJ w4 A4 ds:=dC.of_own own4
     have hnil:=xT own4
     have HOB:=fA (qC own4)
     have hA4:∀ x ∈ zB A4,w.heap.size<=x:=fun x hx=>pA (HWD.out.2 _ hb2).size (qC own4 x hx).1
     have HSUM:=fA (fun V (hb:Below w4.heap.size w4 V)=>zBG A4 c4 ds V (hCB.below hb) (by omega))
     have HTK:=fA (fun V (hb:Below w4.heap.size w4 V)=>zDH R C L c k H s S v o2 ver o4 A4 c4 ds V (HH4.out.below hb) HKV.out.1 HKV.out.2 HV.out (fun x hx=>HR.out x (pA hsz4 (pA hb.size hx))) ht m HM.out hm2 (hCB.below hb) hnil hrl (fun x hx q=>by have:=hA4 x hx;have:=HH.out.own_lt q;omega))
     have HS4:jC (∀ V,Below w4.heap.size w4 V -> (fun V:uA=>V.cell? ⟨w.heap.size,1,none⟩=yA (.int .i64 o2)/\V.cell? ⟨w.heap.size,2,none⟩=yA (.int .i64 o3)/\V.cell? ⟨w.heap.size,3,none⟩=yA (.int .u32 o4)) V):=fA fun V hb=>⟨jA (kA hb GX4.out) 1,jA (kA hb GX4.out) 2,jA (kA hb GX4.out) 3⟩
     have b4:Below w4.heap.size w4 w4.drew:=⟨rfl,rfl,rfl,mA _,fun _ _=>rfl⟩
     have HE:jC (c.copies (o1,o2,o3,o4,o5,o6,o7) k v=c -> ∀ V,Below w4.heap.size w4 V -> lL R C L 2 w (.tuple #[]) (c.copies (o1,o2,o3,o4,o5,o6,o7) k v) (.returned (.tuple #[])) V):=fA fun e V hb=>by rw [e];exact ⟨rfl,L,rC.refl HH.out (hb04.trans (hb.mono hsz4)),fun m h=>h.mono (mF _ _)⟩
     clear hCB hnil hA4 own4 HOB
     by_cases hee:er=0
     case neg =>
      have HZ3:c.copies (o1,o2,o3,o4,o5,o6,o7) k v=c:=by rw [HZ2.out];unfold Cl.copyT;rw [if_neg (by simp [hee])]
      have heb:(er != 0)=true:=by simpa using hee
      go_wp2_with fail
      refine iC (S:=fun V:uA=>V.cell? ⟨w.heap.size,1,none⟩=yA (.int .i64 o2)/\V.cell? ⟨w.heap.size,2,none⟩=yA (.int .i64 o3)/\V.cell? ⟨w.heap.size,3,none⟩=yA (.int .u32 o4)) [] (HS4.out _ b4) fun hH => ?_
      refine gU [0,1,2,203,204,205,206,7,8,209,210,211,212,213,14,15,216,217,218,219,220,221,222,223,224,25,300] ?_
      clear hH
      go_wp2
      go_end0
      exact HE.out HZ3 _ (b4)
     case pos =>
      subst hee
      by_cases hvv:ver=o3
      case neg =>
       have HZ3:c.copies (o1,o2,o3,o4,o5,o6,o7) k v=c:=by rw [HZ2.out];unfold Cl.copyT;rw [if_neg (by simp [hvv])]
       have heb:(ver != o3)=true:=by simpa using hvv
       go_wp2_with fail
       refine iC (S:=fun V:uA=>V.cell? ⟨w.heap.size,1,none⟩=yA (.int .i64 o2)/\V.cell? ⟨w.heap.size,2,none⟩=yA (.int .i64 o3)/\V.cell? ⟨w.heap.size,3,none⟩=yA (.int .u32 o4)) [] (HS4.out _ b4) fun hH => ?_
       refine gU [0,1,2,3,4,105,6,7,8,209,210,211,212,213,14,15,216,217,218,219,220,221,222,223,224,25,300] ?_
       clear hH
       go_wp2
       go_end0
       exact HE.out HZ3 _ (b4)
      case pos =>
       have hvv2:=hvv.symm
       subst hvv2
       by_cases hss:U (sum ds)=o4
       case neg =>
        have HZ3:c.copies (o1,o2,o3,o4,o5,o6,o7) k v=c:=by rw [HZ2.out];unfold Cl.copyT;rw [if_neg (by simp [hss])]
        have heb:(U (sum ds) != o4)=true:=by simpa using hss
        go_wp2_with fail
        refine iC (S:=fun V:uA=>V.cell? ⟨w.heap.size,1,none⟩=yA (.int .i64 o2)/\V.cell? ⟨w.heap.size,2,none⟩=yA (.int .i64 o3)/\V.cell? ⟨w.heap.size,3,none⟩=yA (.int .u32 o4)) [] (HS4.out _ b4) fun hH => ?_
        refine gU [0,1,2,3,4,105,6,7,8,9,11,112] ?_
        refine oU 10 fun K hK => ?_
        go_simp
        go_at_call 32
        refine (HSUM.out _ b4).mono ?_
        rintro e w5 ⟨rfl,hb5⟩
        have hb45:=b4.trans hb5
        refine hK.out _ _ (HS4.out w5 hb45) fun hH => ?_
        clear hK K
        refine gU [13,14,15,216,217,218,219,220,221,222,223,224,25,300] ?_
        clear hH
        go_wp2
        go_end0
        exact HE.out HZ3 _ (hb45)
       case pos =>
        have HZ3:jC (c.copies (o1,o2,o3,o4,o5,o6,o7) k v=c.copyY (o1,o2,o3,o4,o5,o6,o7) k v.up o3 (v.s.take o2 o3 o4 ds)):=fA (by rw [HZ2.out];unfold Cl.copyT;rw [if_pos ⟨rfl,rfl,hss⟩])
        clear HZ2 HE
        have HS6:jC (∀ V w6 L6 c6,Below w4.heap.size w4 V -> rC R C L L6 c6 V w6 -> w6.heap[w.heap.size]?=yA (.cells #[o1,o2,o3,.int .u32 o4,o5,o6,o7] 105)):=fA fun V w6 L6 c6 hb st=>rC.keep (HH4.out.below hb) st (kA hb GX4.out) hnX
        generalize v.s.take o2 o3 o4 ds=y at *
        obtain ⟨v6,q⟩:=y
        dsimp only at HTK
        go_wp2_with fail
        refine iC (S:=fun V:uA=>V.cell? ⟨w.heap.size,1,none⟩=yA (.int .i64 o2)/\V.cell? ⟨w.heap.size,2,none⟩=yA (.int .i64 o3)/\V.cell? ⟨w.heap.size,3,none⟩=yA (.int .u32 o4)) [] (HS4.out _ b4) fun hH => ?_
        refine gU [0,1,2,3,4,105,6,7,8,9,11,112] ?_
        refine oU 10 fun K hK => ?_
        go_simp
        go_at_call 32
        refine (HSUM.out _ b4).mono ?_
        rintro e w5 ⟨rfl,hb5⟩
        have hb45:=b4.trans hb5
        refine hK.out _ _ (HS4.out w5 hb45) fun hH => ?_
        clear hK K
        refine gU [13,14,15,16,17,118,19,20,121,22] ?_
        refine oU 23 fun K hK => ?_
        go_simp
        go_at_call 61
        refine (HTK.out _ hb45).mono ?_
        rintro e w6 ⟨rfl,L6,st6,hm6⟩
        have gx6:=HS6.out _ _ _ _ hb45 st6
        refine hK.out _ _ (⟨jA gx6 1,jA gx6 2,jA gx6 3⟩) fun hH => ?_
        clear hK K
        refine gU [24,25,300] ?_
        clear hH
        have HST6:=fA st6
        have G6:=fA (HS6.out _ _ _ _ hb45 st6)
        have HB6:=fA (HH4.out.below hb45)
        clear st6 HS6 HS4 HSUM HTK
        have HB05:=fA (hb04.trans (hb45.mono hsz4))
        cases q with
        | false =>
         have HZ4:c.copies (o1,o2,o3,o4,o5,o6,o7) k v={ c with h:=eH c.h k (yA ⟨v6,v.up⟩) }:=by rw [HZ3.out];rfl
         go_wp2
         go_end0
         rw [HZ4]
         exact ⟨rfl,L6,(rC.refl HH.out HB05.out).trans HST6.out,hm6⟩
        | true =>
         have HZ4:jC (c.copies (o1,o2,o3,o4,o5,o6,o7) k v=Cl.copyZ { c with h:=eH c.h k (yA ⟨v6,v.up⟩) } (o1,o2,o3,o4,o5,o6,o7) o3 (zAZ c.ls o2 o6)):=fA (by rw [HZ3.out];rfl)
         clear HZ3
         have hs6:w.heap.size<=w6.heap.size:=pA HB05.out.size HST6.out.chg.size
         have HA6:=fA HST6.out.at_
         have hlsl:=HA6.out.rl.1.max
         have hdl:=zHW c.ls o2 o6
         have HDN:=fA (zLP L6.lA L6.lc c.ls o2 o6 w6.drew ((HA6.out.below (⟨rfl,rfl,rfl,mA _,fun _ _=>rfl⟩:Below w6.heap.size w6 w6.drew)).rl.1))
         have HS5:jC (∀ V,Below w6.drew.heap.size w6.drew V -> (fun V:uA=>V.cell? ⟨C,4,none⟩=yA (.slice L6.lA c.ls.length L6.lc)/\V.cell? ⟨w.heap.size,1,none⟩=yA (.int .i64 o2)/\V.cell? ⟨w.heap.size,5,none⟩=yA (.int .i64 o6)) V):=fA fun V hb=>⟨jA (kA hb (iB HA6.out.blk)) 4,jA (kA hb (iB G6.out)) 1,jA (kA hb (iB G6.out)) 5⟩
         dsimp only at hlsl
         have hdl2:(zAZ c.ls o2 o6).1.length<=1000000:=pA hdl hlsl
         clear hdl hlsl
         have HLS:=fA (fun (w7:uA) (A7:Option Addr) (c7:Nat) (own7:w7.ownsRow w6.drew.heap.size 176 5 (.slice A7 (zAZ c.ls o2 o6).1.length c7) (zAZ c.ls o2 o6).1.length (flat vU (zAZ c.ls o2 o6).1)) (hb:Below w6.heap.size w6 w7)=>HA6.out.setLs (fun x hx=>HR.out x (pA hs6 hx)) hb own7 (mA _) hdl2)
         clear hdl2
         generalize zAZ c.ls o2 o6=r at *
         obtain ⟨l7,e7⟩:=r
         dsimp only at HDN HLS
         go_wp2_with fail
         refine iC (S:=fun V:uA=>V.cell? ⟨C,4,none⟩=yA (.slice L6.lA c.ls.length L6.lc)/\V.cell? ⟨w.heap.size,1,none⟩=yA (.int .i64 o2)/\V.cell? ⟨w.heap.size,5,none⟩=yA (.int .i64 o6)) [] (HS5.out _ (Below.refl _ _)) fun hH => ?_
         refine gU [0,1,2,3,104,5,106,7,108] ?_
         refine oU 9 fun K hK => ?_
         go_simp
         go_at_call 186
         refine HDN.out.mono ?_
         rintro e w7 ⟨A7,c7,rfl,own7,hb7⟩
         refine hK.out _ _ (HS5.out w7 hb7) fun hH => ?_
         clear hK K
         refine gU [10,11,12,13,14,300] ?_
         clear hH
         have hb67:Below w6.heap.size w6 w7:=(⟨rfl,rfl,rfl,mA _,fun _ _=>rfl⟩:Below w6.heap.size w6 w6.drew).trans hb7
         have gC7:=kA hb67 HA6.out.blk
         have c4':=jA gC7 4
         have f4':=qB gC7 4
         have HST7:=fA ((rC.refl HH.out HB05.out).trans HST6.out)
         have gx7:=kA hb67 G6.out
         have u1:=jA gx7 1
         have u5:=jA gx7 5
         have hCX:C≠w.heap.size:=fun e=>hnX (.inl e.symm)
         clear gx7
         by_cases h7:e7=0
         ·subst h7
          have HL:=fA (HLS.out w7 A7 c7 own7 hb67)
          have hs8:=HL.out.chg.size
          have HZ5:c.copies (o1,o2,o3,o4,o5,o6,o7) k v=(Cl.knw { { c with h:=eH c.h k (yA ⟨v6,v.up⟩) } with ls:=l7 } 5 o2 o6 o3).1:=by rw [HZ4.out];rfl
          clear gC7 own7
          go_wp2_with (go_at_call 48;refine (HKN.out _ _ _ o3 HL.out.at_ (pA hs6 hs8)).mono ?_;rintro e w9 ⟨rfl,L9,st9,hm9⟩)
          go_end0
          rw [HZ5]
          exact ⟨rfl,L9,HST7.out.trans (HL.out.trans st9),fun m h=>hm9 _ (hm6 m h)⟩
         ·have HZ5:c.copies (o1,o2,o3,o4,o5,o6,o7) k v=(Cl.knw { c with h:=eH c.h k (yA ⟨v6,v.up⟩) } 5 o2 o6 o3).1:=by rw [HZ4.out];unfold Cl.copyZ;rw [if_neg h7]
          have HL:=fA (rC.refl HA6.out hb67)
          clear gC7 own7
          go_wp2_with (go_at_call 48;refine (HKN.out _ _ _ o3 HL.out.at_ (pA hs6 hb67.size)).mono ?_;rintro e w9 ⟨rfl,L9,st9,hm9⟩)
          go_end0
          rw [HZ5]
          exact ⟨rfl,L9,HST7.out.trans (HL.out.trans st9),fun m h=>hm9 _ (hm6 m h)⟩
end Go.Proofs.YtogbpifcmhafkaaGreat
