/-
 Part PZI of the proof.
-/
import Derived.Test.YtogbpifcmhafkaaGreatPZF
open And renaming intro->gG
open Go renaming Calls->iA,World->uA
open Go.Lib renaming hid->fA
open Go.RowKit renaming Hid->jC,wrap64->yK
open Go.World renaming size_alloc->wB
open List renaming mem_singleton->xB
open Nat renaming le_refl->mA,le_succ->uE,le_trans->pA
open Option renaming some->yA
namespace Go.Proofs.YtogbpifcmhafkaaGreat
open Go.RowKit Tryz
open Go.Lib(hid)
set_option linter.unusedVariables false
set_option linter.unusedSimpArgs false
set_option maxRecDepth 100000
set_option maxHeartbeats 16000000
def CL.ok (L:CL) (m:Nat):Prop:=L.q<=m/\∀ k a,L.hb k=yA a -> a.2.2.n<=m
def lL (R:Nat -> Prop) (C:Nat) (L:CL) (n:Nat) (w:uA) (r:Value) (c':Cl) (e:Ending) (w':uA):Prop:=e=.returned r/\∃ L',rC R C L L' c' w w'/\∀ m,L.ok m -> L'.ok (m+n)
theorem zFK (R:Nat -> Prop) (C:Nat) (L:CL) (c:Cl) (w:uA) (h:iG R w C L c):iA prog 8 #[(C,0)] w fun e w'=>e=.returned (.int .i64 c.t)/\w'=w:=by
 have c12:=jA h.blk 12
 clear h
 go_enter func8,ntmps8
 go_wp2
 go_ret
 exact ⟨rfl,rfl⟩
theorem zBY (R:Nat -> Prop) (C:Nat) (L:CL) (c:Cl) (w:uA) (h:iG R w C L c):iA prog 9 #[(C,0)] w fun e w'=>e=.returned (.int .i64 (c.net.length:Int))/\w'=w:=by
 have c14:=jA h.blk 14
 clear h
 go_enter func9,ntmps9
 go_wp2
 go_ret
 exact ⟨rfl,rfl⟩
def Cl.upP (c:Cl) (k:Int):Bool:=((c.h k).map (·.up)).getD false
theorem zEp (R:Nat -> Prop) (C:Nat) (L:CL) (c:Cl) (k:Int) (w:uA) (h:iG R w C L c) (hk:(Lit.int .i64 k).wf=true):iA prog 13 #[(C,0),k] w fun e w'=>e=.returned (.bool (c.upP k))/\w'=w:=by
 have c13:=jA h.blk 13
 have hlk:=h.mp.look hk
 unfold Cl.upP
 cases hh:L.hb k with
 | none =>
  have h2:=(h.hn k).1 hh
  rw [hh] at hlk
  simp only [hkey] at hlk
  rw [h2]
  clear h
  go_enter func13,ntmps13
  go_wp2
  go_ret
  exact ⟨rfl,rfl⟩
 | some a =>
  obtain ⟨H,s,S⟩:=a
  cases hv:c.h k with
  | none=>rw [(h.hn k).2 hv] at hh;cases hh
  | some v =>
   obtain ⟨g1,g2⟩:=h.ho k H s S v hh hv
   have e1:=jA g1 1
   rw [hh] at hlk
   simp only [hkey] at hlk
   clear h g1 g2
   go_enter func13,ntmps13
   go_wp2
   go_ret
   exact ⟨rfl,rfl⟩
theorem zJD (R:Nat -> Prop) (C:Nat) (L:CL) (c:Cl) (i a b d:Int) (w:uA) (h:iG R w C L c) (ht:0<=c.t/\c.t<=1000000000):iA prog 16 #[.pointer (yA ⟨C,0,none⟩),.agg #[i,a,b,d]] w (lL R C L 0 w (.int .i64 (if a<0\/100<a then 1 else 0)) (if a<0\/100<a then c else { c with t:=c.t+a })):=by
 have hal:=wA w (.cells #[i,a,b,d] 32)
 have gI:=rB w (.cells #[i,a,b,d] 32)
 have HH:=fA h
 have gC:=kA hal h.blk
 have c12:=jA gC 12
 have f12:=qB gC 12
 have i1:=jA gI 1
 by_cases h0:a<0
 ·rw [if_pos (.inl h0),if_pos (.inl h0)]
  clear h gC
  go_enter func16,ntmps16
  go_wp2
  go_ret
  exact ⟨rfl,L,rC.refl HH.out hal,fun _ h=>h⟩
 ·by_cases h1:100<a
  ·rw [if_pos (.inr h1),if_pos (.inr h1)]
   clear h gC
   go_enter func16,ntmps16
   go_wp2
   go_ret
   exact ⟨rfl,L,rC.refl HH.out hal,fun _ h=>h⟩
  ·have hno:¬ (a<0\/100<a):=by omega
   rw [if_neg hno,if_neg hno]
   have hwr:IntKind.i64.wrap (c.t+a)=c.t+a:=oH (by omega) (by omega)
   have hw64:yK (c.t+a)=c.t+a:=by simp only [IntKind.wrap,yK] at hwr ⊢;omega
   have GC:=fA gC
   clear h gC hno
   go_enter func16,ntmps16
   go_wp2
   generalize w.alloc (.cells #[i,a,b,d] 32)=W at *
   go_still_tail 7,(by kernel_rfl)
   show wpList _ _ _ _ _ W.drew
   go_wp2
   go_ret
   have h:=HH.out.below hal
   have hC:fD [C] W (W.setCell ⟨C,12,none⟩ (.int .i64 (c.t+a))).drew:=((fD.refl _ W).setCell (.inl (by simp)) 12 _).drew
   have gC2:(W.setCell ⟨C,12,none⟩ (.int .i64 (c.t+a))).drew.heap[C]?=yA (zNm (.slice L.nA c.ns.length L.nc) (.slice L.cA c.cs.length L.cc) (.slice L.bA c.bs.length L.bc) (.slice L.lA c.ls.length L.lc) (.slice L.dA c.ds.length L.dc) c.r (c.t+a) L.M (.slice L.eA c.net.length L.ec)):=iB (by simpa using zD (i:=12) GC.out (.int .i64 (c.t+a)))
   exact ⟨rfl,L,(rC.refl HH.out hal).trans (h.upd (L':=L) (c':={ c with t:=c.t+a }) hC rfl rfl rfl rfl rfl rfl rfl gC2 (h.kn hC (wP C L)) (h.kc hC (wP C L)) (h.kb hC (wP C L)) (h.kl hC (wP C L)) (h.kd hC (wP C L))),fun _ h=>h⟩
def zGl (r:Ru):Cl:=⟨[],[],[],[],[],r,0,fun _=>none,[]⟩
def pU (M:Nat):CL:=⟨none,0,none,0,none,0,none,0,none,0,M,0,fun _=>none,none,0⟩
def zNu (r:Ru) (w:uA) (e:Ending) (w':uA):Prop:=(vT r=false/\e=.returned (.tuple #[.pointer none,.int .i64 1])/\Below w.heap.size w w')\/(vT r=true/\∃ C M,e=.returned (.tuple #[(C,0),.int .i64 0])/\(∀ R,iG R w' C (pU M) (zGl r))/\w.heap.size<=C/\w.heap.size<=M/\Below w.heap.size w w')
theorem zOO (R:Nat -> Prop) (w:uA) (r:Ru):iG R ((w.alloc (.map #[] 0)).alloc (zNm (.slice none 0 0) (.slice none 0 0) (.slice none 0 0) (.slice none 0 0) (.slice none 0 0) r 0 w.heap.size (.slice none 0 0))) (w.heap.size+1) (pU w.heap.size) (zGl r):=by
 have e1:(w.alloc (.map #[] 0)).heap.size=w.heap.size+1:=by simp
 have g:=rB (w.alloc (.map #[] 0)) (zNm (.slice none 0 0) (.slice none 0 0) (.slice none 0 0) (.slice none 0 0) (.slice none 0 0) r 0 w.heap.size (.slice none 0 0))
 rw [e1] at g
 have hf:∀ {α:Type} (enc:α -> List Value) (Q:Nat -> Prop) (W:uA),vS Q enc W none 0 ([]:List α):=fun enc Q W=>⟨yB.nil,fun x hx=>by cases hx⟩
 exact ⟨g,hf _ _ _,⟨[],rfl,yB.nil,fun i x a h=>(by cases (show (none:Option Ch)=yA x from h)),fun x hx=>(by cases hx)⟩,hf _ _ _,hf _ _ _,hf _ _ _,(sX.made w).below (wA _ _),fun k=>⟨fun _=>rfl,fun _=>rfl⟩,fun k H s S v h=>(by cases h),World.ownsRow_nil _ _ _ _,Nat.succ_ne_self _,fun x hx=>(by cases hx),fun k H s S h=>(by cases h),fun k H s S k' H' s' S' h=>(by cases h)⟩
theorem zDq (r1 r2 r3 r4 r5 r6:Int) (w:uA):iA prog 5 #[.agg #[r1,r2,r3,r4,r5,r6]] w (zNu (r1,r2,r3,r4,r5,r6) w):=by
 have hmm:=@run_makeMap prog
 have h1:=wA w (.cells #[r1,r2,r3,r4,r5,r6] 23)
 have gR:=rB w (.cells #[r1,r2,r3,r4,r5,r6] 23)
 have HM:=fA (fun W=>zGh r1 r2 r3 r4 r5 r6 W)
 have x0:=jA gR 0
 have x1:=jA gR 1
 have x2:=jA gR 2
 have x3:=jA gR 3
 have x4:=jA gR 4
 have x5:=jA gR 5
 have HQ:jC (vT (r1,r2,r3,r4,r5,r6)=vT (r1,r2,r3,r4,r5,r6)):=fA rfl
 generalize hq:vT (r1,r2,r3,r4,r5,r6)=q at HM
 replace HQ:=fA hq
 clear hq
 cases q with
 | false =>
  go_enter func5,ntmps5
  go_wp2_with (go_at_call 15;refine (HM.out _).mono ?_;rintro e w1 ⟨rfl,hb1⟩)
  go_ret2
  exact .inl ⟨HQ.out,rfl,h1.trans (hb1.mono h1.size)⟩
 | true =>
  go_enter func5,ntmps5
  go_wp2_with (go_at_call 15;refine (HM.out _).mono ?_;rintro e w1 ⟨rfl,hb1⟩;have gR1:=kA hb1 gR;have y0:=jA gR1 0;have y1:=jA gR1 1;have y2:=jA gR1 2;have y3:=jA gR1 3;have y4:=jA gR1 4;have y5:=jA gR1 5;clear x0 x1 x2 x3 x4 x5 gR gR1)
  go_ret2
  have hb:=h1.trans (hb1.mono h1.size)
  exact .inr ⟨HQ.out,w1.heap.size+1,w1.heap.size,rfl,fun R=>zOO R w1 (r1,r2,r3,r4,r5,r6),pA hb.size (uE _),hb.size,hb.trans ((yI w1 _ _).mono hb.size)⟩
def Cl.atF (c:Cl) (a:Int) (n u:Bool) (F:zHu -> Cl × Int):Cl × Int:=match c.h a with
 | none=>(c,5)
 | some v=>if (n && !(v.up == u))=true then (c,8) else F v
def zQW (C:Nat) (n u:Bool) (g:Nat) (b:Nat) (w:uA):Prop:=w.heap[b]?=yA (.cells #[(C,0)] 26)/\w.heap[b+1]?=yA (.cells #[.bool n] 4)/\w.heap[b+2]?=yA (.cells #[.bool u] 4)/\w.heap[b+3]?=yA (.cells #[.func (.func g) #[(C,0)] #[]] 60)
def zRl (C:Nat) (n u:Bool) (g:Nat) (fv:Value) (w:uA):Prop:=∃ b,fv=.func (.func 62) #[] #[(b,0),(b+1,0),(b+2,0),(b+3,0)]/\zQW C n u g b w
theorem al4 (w:uA) (o1 o2 o3 o4:Obj):((((w.alloc o1).alloc o2).alloc o3).alloc o4).heap[w.heap.size]?=yA o1/\((((w.alloc o1).alloc o2).alloc o3).alloc o4).heap[w.heap.size+1]?=yA o2/\((((w.alloc o1).alloc o2).alloc o3).alloc o4).heap[w.heap.size+2]?=yA o3/\((((w.alloc o1).alloc o2).alloc o3).alloc o4).heap[w.heap.size+3]?=yA o4/\Below w.heap.size w ((((w.alloc o1).alloc o2).alloc o3).alloc o4):=by
 obtain ⟨⟨g1,g2,g3⟩,hs,hb⟩:=zGH w o1 o2 o3
 have h4:=wA (((w.alloc o1).alloc o2).alloc o3) o4
 have g4:=rB (((w.alloc o1).alloc o2).alloc o3) o4
 rw [hs] at g4
 exact ⟨kA h4 g1,kA h4 g2,kA h4 g3,g4,hb.trans (h4.mono hb.size)⟩
theorem rV (C:Nat) (n u:Bool) (g:Nat) (w:uA):iA prog 22 #[.pointer (yA ⟨C,0,none⟩),.bool n,.bool u,.func (.func g) #[(C,0)] #[]] w fun e w'=>∃ fv,e=.returned fv/\zRl C n u g fv w'/\Below w.heap.size w w':=by
 obtain ⟨g1,g2,g3,g4,hb⟩:=al4 w (.cells #[.pointer (yA ⟨C,0,none⟩)] 26) (.cells #[.bool n] 4) (.cells #[.bool u] 4) (.cells #[.func (.func g) #[.pointer (yA ⟨C,0,none⟩)] #[]] 60)
 have HG:=fA (gG g1 (gG g2 (gG g3 (gG g4 hb))))
 clear g1 g2 g3 g4 hb
 go_enter func22,ntmps22
 go_wp2
 go_ret
 obtain ⟨g1,g2,g3,g4,hb⟩:=HG.out
 exact ⟨_,rfl,⟨w.heap.size,rfl,g1,g2,g3,g4⟩,hb⟩
def zFN (a:Int):UInt8:=UInt8.ofNat (a % 256).toNat
def yS (a b:Int):List UInt8:=[zFN a,zFN (a / 256),zFN b,zFN (b / 256)]
theorem zJy (a b:Int) (w:uA):iA prog 54 #[a,b] w (mD 5 1 4 ((yS a b).map pI) w):=by
 go_enter func54,ntmps54
 go_wp2
 go_ret
 have e:∀ x:Int,pI (zFN x)=.int .u8 (x % 256):=fun x=>by
  unfold pI zFN
  rw [UInt8.toNat_ofNat',show (2:Nat) ^ 8=256 by decide,Nat.mod_eq_of_lt (by omega)]
  congr 1
  omega
 refine ⟨_,_,rfl,?_,wA _ _⟩
 have:(yS a b).map pI=[.int .u8 (a % 256),.int .u8 (a / 256 % 256),.int .u8 (b % 256),.int .u8 (b / 256 % 256)]:=by simp only [yS,List.map_cons,List.map_nil,e]
 rw [this]
 exact ⟨rfl,.inr ⟨w.heap.size,4,_,rfl,mA _,rB w _,mA _,by unfold maxLen;decide,rfl,rfl⟩⟩
def Cl.knownZ (c:Cl) (z:List Nd × List Ch × Int):Cl × Int:=if z.2.2<0 then (c,yK (-z.2.2)) else ({ c with ns:=z.1,cs:=z.2.1 },0)
def Cl.knw (c:Cl) (K p q r:Int):Cl × Int:=c.knownZ (lT K p q r c.ns c.cs)
theorem sQ (R:Nat -> Prop) (C:Nat) (L:CL) (c:Cl) (x2 K p q r:Int) (w:uA) (h:iG R w C L c) (hR:∀ x,w.heap.size<=x -> R x) (hK:K=1\/K=2\/K=3\/K=4\/K=5\/K=6):iA prog 48 #[.pointer (yA ⟨C,0,none⟩),.agg #[.int .i64 0,x2,K,p,q,r]] w (lL R C L 0 w (.int .i64 (c.knw K p q r).2) (c.knw K p q r).1):=by
 have hal:=wA w (.cells #[.int .i64 0,x2,K,p,q,r] 99)
 have gX:=rB w (.cells #[.int .i64 0,x2,K,p,q,r] 99)
 have HH:=fA h
 have HRV:=fA hR
 have gC:=kA hal h.blk
 have HAP0:=fA (fun V (hb:Below w.heap.size w V)=>zFJ L.nA L.cA L.nc L.cc c.ns c.cs x2 K p q r V hK (h.rn.1.below hb) (h.rc.in_.below hb))
 unfold Cl.knw
 generalize lT K p q r c.ns c.cs=z at *
 obtain ⟨z1,z2,z3⟩:=z
 have HZ:jC (c.knownZ (z1,z2,z3)=if z3<0 then (c,yK (-z3)) else ({ c with ns:=z1,cs:=z2 },0)):=fA rfl
 have hWw:=hal.size
 have hWs:w.heap.size<(w.alloc (.cells #[.int .i64 0,x2,K,p,q,r] 99)).heap.size:=eB gX
 clear h hR hK
 go_enter func48,ntmps48
 go_wp2_with fail
 generalize w.alloc (.cells #[.int .i64 0,x2,K,p,q,r] 99)=W at *
 have HAP:=fA (fun V (hb:Below W.heap.size W V)=>HAP0.out V (hal.trans (hb.mono hWw)))
 have HSS:jC (∀ V,Below W.heap.size W V -> (fun V:uA=>V.cell? ⟨C,0,none⟩=yA (.slice L.nA c.ns.length L.nc)/\V.cell? ⟨C,1,none⟩=yA (.slice L.cA c.cs.length L.cc)/\V.cell? ⟨C,2,none⟩=yA (.slice none 0 0)/\V.cell? ⟨w.heap.size,0,none⟩=yA (.int .i64 0)/\V.cell? ⟨w.heap.size,1,none⟩=yA (.int .i64 x2)/\V.cell? ⟨w.heap.size,2,none⟩=yA (.int .i64 K)/\V.cell? ⟨w.heap.size,3,none⟩=yA (.int .i64 p)/\V.cell? ⟨w.heap.size,4,none⟩=yA (.int .i64 q)/\V.cell? ⟨w.heap.size,5,none⟩=yA (.int .i64 r)) V):=fA fun V hb=>⟨jA (kA hb gC) 0,jA (kA hb gC) 1,jA (kA hb gC) 2,jA (kA hb gX) 0,jA (kA hb gX) 1,jA (kA hb gX) 2,jA (kA hb gX) 3,jA (kA hb gX) 4,jA (kA hb gX) 5⟩
 have GC:=fA gC
 have b0:Below W.heap.size W W.drew:=⟨rfl,rfl,rfl,mA _,fun _ _=>rfl⟩
 have bA:Below W.heap.size W (W.alloc (.cells #[.slice none 0 0,.slice none 0 0,.slice none 0 0] 51)).drew:=(wA W (.cells #[.slice none 0 0,.slice none 0 0,.slice none 0 0] 51)).drew
 have gA:=iB (rB W (.cells #[.slice none 0 0,.slice none 0 0,.slice none 0 0] 51))
 have HNE:jC (∀ (w4 w5:uA) (A:Option Addr) (a:Nat) (xs:List Nd),rQ (fun x=>(W.alloc (.cells #[.slice none 0 0,.slice none 0 0,.slice none 0 0] 51)).drew.heap.size<=x) qH w4 A a xs -> rQ (fun x=>w.heap.size<=x) qH w4 A a xs -> fD [W.heap.size] w4 w5 -> rQ (fun x=>w.heap.size<=x) qH w5 A a xs):=fA fun w4 w5 A a xs h1 _ hc=>(rQ.chg h1 hc (fun x hx q=>by rw [xB] at q;have h9:W.heap.size+1<=x:=(by have:(W.alloc (.cells #[.slice none 0 0,.slice none 0 0,.slice none 0 0] 51)).heap.size<=x:=hx;rwa [wB] at this);omega)).mono fun x hx=>by have:(W.alloc (.cells #[.slice none 0 0,.slice none 0 0,.slice none 0 0] 51)).heap.size<=x:=hx;rw [wB] at this;omega
 have HNE2:jC (∀ (w4 w5:uA) (A:Option Addr) (a:Nat) (xs:List Ch),zBU (fun x=>(W.alloc (.cells #[.slice none 0 0,.slice none 0 0,.slice none 0 0] 51)).drew.heap.size<=x) w4 A a xs -> zBU (fun x=>w.heap.size<=x) w4 A a xs -> fD [W.heap.size] w4 w5 -> zBU (fun x=>w.heap.size<=x) w5 A a xs):=fA fun w4 w5 A a xs h1 _ hc=>(zBU.chg h1 hc (fun x hx q=>by rw [xB] at q;have h9:W.heap.size+1<=x:=(by have:(W.alloc (.cells #[.slice none 0 0,.slice none 0 0,.slice none 0 0] 51)).heap.size<=x:=hx;rwa [wB] at this);omega)).mono fun x hx=>by have:(W.alloc (.cells #[.slice none 0 0,.slice none 0 0,.slice none 0 0] 51)).heap.size<=x:=hx;rw [wB] at this;omega
 clear gC gX
 go_cut [5,6] (fun m n wx=>∃ Y A4 a4 B4 b4,m=.pointer (yA ⟨Y,0,none⟩)/\n=.int .i64 z3/\wx.heap[Y]?=yA (.cells #[.slice A4 z1.length a4,.slice B4 z2.length b4,.slice none 0 0] 51)/\W.heap.size<=Y/\Below W.heap.size W wx/\rQ (fun x=>w.heap.size<=x) qH wx A4 a4 z1/\zBU (fun x=>w.heap.size<=x) wx B4 b4 z2)
 case first =>
  refine iC (S:=fun V:uA=>V.cell? ⟨C,0,none⟩=yA (.slice L.nA c.ns.length L.nc)/\V.cell? ⟨C,1,none⟩=yA (.slice L.cA c.cs.length L.cc)/\V.cell? ⟨C,2,none⟩=yA (.slice none 0 0)/\V.cell? ⟨w.heap.size,0,none⟩=yA (.int .i64 0)/\V.cell? ⟨w.heap.size,1,none⟩=yA (.int .i64 x2)/\V.cell? ⟨w.heap.size,2,none⟩=yA (.int .i64 K)/\V.cell? ⟨w.heap.size,3,none⟩=yA (.int .i64 p)/\V.cell? ⟨w.heap.size,4,none⟩=yA (.int .i64 q)/\V.cell? ⟨w.heap.size,5,none⟩=yA (.int .i64 r)) [10,11] (HSS.out _ b0) fun hH => ?_
  refine gU [0,1,2,103,104] ?_
  refine bU 5 9 (fun K hK => ?_) (fun K hK => ?_)
  ·go_simp
   go_at_call 55
   refine (HAP.out _ b0).mono ?_
   rintro e w4 ⟨A4,a4,B4,b4,rfl,hA4,hB4,hb4'⟩
   have hbX:=b0.trans (hb4'.mono b0.size)
   have hA5:=fA (hA4.mono fun x hx=>pA hWw (pA b0.size hx))
   have hB5:=fA (hB4.mono fun x hx=>pA hWw (pA b0.size hx))
   refine hK.out _ _ (HSS.out _ hbX) fun hH => ?_
   clear hK K
   refine gU [6,7,8] ?_
   refine oU 9 fun K hK => ?_
   go_simp
   refine hK.out _ _ (HSS.out _ (hbX.trans ((wA w4 (.cells #[.slice none 0 0,.slice none 0 0,.slice none 0 0] 51)).mono hbX.size))) fun hH => ?_
   clear hK K
   refine tU 10 fun K hK => ?_
   have gY:=rB w4 (.cells #[.slice none 0 0,.slice none 0 0,.slice none 0 0] 51)
   have y0:=jA gY 0
   have y1:=jA gY 1
   have y2:=jA gY 2
   have f0:=qB gY 0
   have f1:=qB gY 1
   have f2:=qB gY 2
   go_simp
   refine hK.out _ _ ?_
   clear hK K
   refine tU 11 fun K hK => ?_
   go_simp
   refine hK.out _ _ ?_
   clear hK K
   refine gU [300] ?_
   have hYl:W.heap.size<=w4.heap.size:=hbX.size
   have HRL:=fA (show (w4.alloc (.cells #[.slice A4 z1.length a4,.slice B4 z2.length b4,.slice none 0 0] 51)).heap[w4.heap.size]?=yA (.cells #[.slice A4 z1.length a4,.slice B4 z2.length b4,.slice none 0 0] 51)/\W.heap.size<=w4.heap.size/\Below W.heap.size W (w4.alloc (.cells #[.slice A4 z1.length a4,.slice B4 z2.length b4,.slice none 0 0] 51))/\rQ (fun x=>w.heap.size<=x) qH (w4.alloc (.cells #[.slice A4 z1.length a4,.slice B4 z2.length b4,.slice none 0 0] 51)) A4 a4 z1/\zBU (fun x=>w.heap.size<=x) (w4.alloc (.cells #[.slice A4 z1.length a4,.slice B4 z2.length b4,.slice none 0 0] 51)) B4 b4 z2 from ⟨rB _ _,hYl,hbX.trans ((wA w4 _).mono hbX.size),hA5.out.below (wA w4 _),hB5.out.below (wA w4 _)⟩)
   clear gY hYl y0 y1 y2 f0 f1 f2 hH hA4 hB4
   generalize (w4.alloc (.cells #[.slice A4 z1.length a4,.slice B4 z2.length b4,.slice none 0 0] 51))=WF at *
   go_wp2_with fail
   go_meet
   exact ⟨w4.heap.size,A4,a4,B4,b4,rfl,rfl,HRL.out⟩
  ·go_simp
   refine hK.out _ _ (HSS.out _ bA) fun hH => ?_
   clear hK K
   refine oU 5 fun K hK => ?_
   go_simp
   go_at_call 55
   refine (HAP.out _ bA).mono ?_
   rintro e w4 ⟨A4,a4,B4,b4,rfl,hA4,hB4,hb4'⟩
   have hbX:=bA.trans (hb4'.mono bA.size)
   have hA5:=fA (hA4.mono fun x hx=>pA hWw (pA bA.size hx))
   have hB5:=fA (hB4.mono fun x hx=>pA hWw (pA bA.size hx))
   have gY:=kA hb4' gA
   have y0:=jA gY 0
   have y1:=jA gY 1
   have y2:=jA gY 2
   have f0:=qB gY 0
   have f1:=qB gY 1
   have f2:=qB gY 2
   refine hK.out _ _ (HSS.out _ hbX) fun hH => ?_
   clear hK K
   refine gU [6,7,8] ?_
   refine tU 10 fun K hK => ?_
   go_simp
   refine hK.out _ _ ?_
   clear hK K
   refine tU 11 fun K hK => ?_
   go_simp
   refine hK.out _ _ ?_
   clear hK K
   refine gU [300] ?_
   have hYl:W.heap.size<=W.heap.size:=mA _
   have hYc:fD [W.heap.size] w4 (((w4.setCell ⟨W.heap.size,0,none⟩ (.slice A4 z1.length a4)).setCell ⟨W.heap.size,1,none⟩ (.slice B4 z2.length b4)).setCell ⟨W.heap.size,2,none⟩ (.slice none 0 0)):=(((fD.refl [W.heap.size] w4).setCell (.inl (by simp)) 0 _).setCell (.inl (by simp)) 1 _).setCell (.inl (by simp)) 2 _
   have HRL:=fA (show (((w4.setCell ⟨W.heap.size,0,none⟩ (.slice A4 z1.length a4)).setCell ⟨W.heap.size,1,none⟩ (.slice B4 z2.length b4)).setCell ⟨W.heap.size,2,none⟩ (.slice none 0 0)).heap[W.heap.size]?=yA (.cells #[.slice A4 z1.length a4,.slice B4 z2.length b4,.slice none 0 0] 51)/\W.heap.size<=W.heap.size/\Below W.heap.size W (((w4.setCell ⟨W.heap.size,0,none⟩ (.slice A4 z1.length a4)).setCell ⟨W.heap.size,1,none⟩ (.slice B4 z2.length b4)).setCell ⟨W.heap.size,2,none⟩ (.slice none 0 0))/\rQ (fun x=>w.heap.size<=x) qH (((w4.setCell ⟨W.heap.size,0,none⟩ (.slice A4 z1.length a4)).setCell ⟨W.heap.size,1,none⟩ (.slice B4 z2.length b4)).setCell ⟨W.heap.size,2,none⟩ (.slice none 0 0)) A4 a4 z1/\zBU (fun x=>w.heap.size<=x) (((w4.setCell ⟨W.heap.size,0,none⟩ (.slice A4 z1.length a4)).setCell ⟨W.heap.size,1,none⟩ (.slice B4 z2.length b4)).setCell ⟨W.heap.size,2,none⟩ (.slice none 0 0)) B4 b4 z2 from ⟨xI gY (.slice A4 z1.length a4) (.slice B4 z2.length b4) (.slice none 0 0),hYl,(((hbX.setCell (p:=⟨W.heap.size,0,none⟩) hYl _).setCell (p:=⟨W.heap.size,1,none⟩) hYl _).setCell (p:=⟨W.heap.size,2,none⟩) hYl _),HNE.out _ _ _ _ _ hA4 hA5.out hYc,HNE2.out _ _ _ _ _ hB4 hB5.out hYc⟩)
   clear hYc
   clear gY hYl y0 y1 y2 f0 f1 f2 hH hA4 hB4
   generalize (((w4.setCell ⟨W.heap.size,0,none⟩ (.slice A4 z1.length a4)).setCell ⟨W.heap.size,1,none⟩ (.slice B4 z2.length b4)).setCell ⟨W.heap.size,2,none⟩ (.slice none 0 0))=WF at *
   go_wp2_with fail
   go_meet
   exact ⟨W.heap.size,A4,a4,B4,b4,rfl,rfl,HRL.out⟩
 case rest =>
  obtain ⟨Y,A4,a4,B4,b4,rfl,rfl,gY,hY,hb5,hA4,hB4⟩:=hcut
  generalize wc=w5 at *
  have gC5:=kA hb5 GC.out
  have hb05:=hal.trans (hb5.mono hWw)
  obtain ⟨y0,y1,y2,_,_,_,_⟩:=vH gY
  have HA4:=fA hA4
  have HB4:=fA hB4
  have GC5:=fA gC5
  by_cases hz:z3<0
  ·have HZ2:jC (c.knownZ (z1,z2,z3)=(c,yK (-z3))):=fA (by rw [HZ.out,if_pos hz])
   clear hA4 hB4 gC5
   go_wp2
   go_ret
   rw [HZ2.out]
   exact ⟨rfl,L,rC.refl HH.out hb05,fun _ h=>h⟩
  ·have HZ2:jC (c.knownZ (z1,z2,z3)=({ c with ns:=z1,cs:=z2 },0)):=fA (by rw [HZ.out,if_neg hz])
   have c0:=jA gC5 0
   have c1:=jA gC5 1
   have c2:=jA gC5 2
   have k0:=qB gC5 0
   have k1:=qB gC5 1
   have k2:=qB gC5 2
   clear hA4 hB4 gC5
   go_wp2
   go_ret
   rw [HZ2.out]
   have hCl:C<w.heap.size:=eB HH.out.blk
   have hC:fD [C] w5 (((w5.setCell ⟨C,0,none⟩ (.slice A4 z1.length a4)).setCell ⟨C,1,none⟩ (.slice B4 z2.length b4)).setCell ⟨C,2,none⟩ (.slice none 0 0)):=(((fD.refl _ w5).setCell (.inl (by simp)) 0 _).setCell (.inl (by simp)) 1 _).setCell (.inl (by simp)) 2 _
   have hnC:∀ x,w.heap.size<=x -> x ∉ [C]:=fun x hx q=>by rw [xB] at q;omega
   have gF:(((w5.setCell ⟨C,0,none⟩ (.slice A4 z1.length a4)).setCell ⟨C,1,none⟩ (.slice B4 z2.length b4)).setCell ⟨C,2,none⟩ (.slice none 0 0)).heap[C]?=yA (zNm (.slice A4 z1.length a4) (.slice B4 z2.length b4) (.slice L.bA c.bs.length L.bc) (.slice L.lA c.ls.length L.lc) (.slice L.dA c.ds.length L.dc) c.r c.t L.M (.slice L.eA c.net.length L.ec)):=by simpa using zD (i:=2) (zD (i:=1) (zD (i:=0) GC5.out (.slice A4 z1.length a4)) (.slice B4 z2.length b4)) (.slice none 0 0)
   have h5:=HH.out.below hb05
   have rn:vS (L.rd R (((w5.setCell ⟨C,0,none⟩ (.slice A4 z1.length a4)).setCell ⟨C,1,none⟩ (.slice B4 z2.length b4)).setCell ⟨C,2,none⟩ (.slice none 0 0)) C) qH (((w5.setCell ⟨C,0,none⟩ (.slice A4 z1.length a4)).setCell ⟨C,1,none⟩ (.slice B4 z2.length b4)).setCell ⟨C,2,none⟩ (.slice none 0 0)) A4 a4 z1:=vS.mono (HA4.out.chg hC hnC) fun x hx=>zBl HH.out HRV.out hx.1 hx.2
   have rc:zCj (L.rd R (((w5.setCell ⟨C,0,none⟩ (.slice A4 z1.length a4)).setCell ⟨C,1,none⟩ (.slice B4 z2.length b4)).setCell ⟨C,2,none⟩ (.slice none 0 0)) C) (((w5.setCell ⟨C,0,none⟩ (.slice A4 z1.length a4)).setCell ⟨C,1,none⟩ (.slice B4 z2.length b4)).setCell ⟨C,2,none⟩ (.slice none 0 0)) B4 b4 z2:=zCj.mono (HB4.out.chg hC hnC) fun x hx=>zBl HH.out HRV.out hx.1 hx.2
   exact ⟨rfl,{ L with nA:=A4,nc:=a4,cA:=B4,cc:=b4 },(rC.refl HH.out hb05).trans (h5.upd (L':={ L with nA:=A4,nc:=a4,cA:=B4,cc:=b4 }) (c':={ c with ns:=z1,cs:=z2 }) hC rfl rfl rfl rfl rfl rfl rfl gF rn rc (h5.kb hC (wP C L)) (h5.kl hC (wP C L)) (h5.kd hC (wP C L))),fun _ h=>h⟩
theorem zLI (R:Nat -> Prop) (C:Nat) (L:CL) (c:Cl) (i a b d:Int) (w:uA) (h:iG R w C L c) (hR:∀ x,w.heap.size<=x -> R x):iA prog 18 #[.pointer (yA ⟨C,0,none⟩),.agg #[i,a,b,d]] w (lL R C L 0 w (.int .i64 (c.knw 2 a b 0).2) (c.knw 2 a b 0).1):=by
 have hal:=wA w (.cells #[i,a,b,d] 32)
 have gI:=rB w (.cells #[i,a,b,d] 32)
 have HH:=fA h
 have HK:=fA (sQ R C L c 0 2 a b 0 (w.alloc (.cells #[i,a,b,d] 32)) (h.below hal) (fun x hx=>hR x (pA hal.size hx)) (.inr (.inl rfl)))
 have i1:=jA gI 1
 have i2:=jA gI 2
 clear h gI
 go_enter func18,ntmps18
 go_wp2_with (go_at_call 48;refine HK.out.mono ?_;rintro e w1 ⟨rfl,L',st,hq⟩)
 go_ret
 exact ⟨rfl,L',(rC.refl HH.out hal).trans st,hq⟩
def newSv (d:Int):Sv:=⟨min (max d 0) 16,[],fun _ _=>[]⟩
def Cl.addZ (a d:Int) (z:Cl × Int):Cl × Int:=if z.2=0 then ({ z.1 with h:=eH z.1.h a (yA ⟨newSv d,true⟩) },0) else z
def Cl.addN (c:Cl) (a b d:Int):Cl × Int:=Cl.addZ a d (c.knw 1 a b d)
theorem CL.ok.mono {L:CL} {m n:Nat} (h:L.ok m) (hn:m<=n):L.ok n:=⟨pA h.1 hn,fun k a ha=>pA (h.2 k a ha) hn⟩
theorem zPY {R:Nat -> Prop} {C:Nat} {L:CL} {c:Cl} {w2 w3 w5:uA} {a d:Int} (h:iG R w2 C L c) (hb:Below w2.heap.size w2 w3) (hs:w3.heap.size=w2.heap.size+2)
  (hat:∀ R,qS R w3 (w2.heap.size+1) ⟨w2.heap.size,0,none,0,fun _ _=>(none,0)⟩ (newSv d)) (hC:fD [L.M] (w3.alloc (.cells #[(w2.heap.size+1,0),.bool true] 73)) w5) (hm:sX w5 L.M (L.q+1) (eH (fun k=>hkey (L.hb k)) a (.pointer (yA ⟨w2.heap.size+2,0,none⟩)))) :
  rC R C L { L with hb:=eH L.hb a (yA (w2.heap.size+2,w2.heap.size+1,⟨w2.heap.size,0,none,0,fun _ _=>(none,0)⟩)),q:=L.q+1 } { c with h:=eH c.h a (yA ⟨newSv d,true⟩) } w2 w5/\∀ m,L.ok m -> CL.ok { L with hb:=eH L.hb a (yA (w2.heap.size+2,w2.heap.size+1,⟨w2.heap.size,0,none,0,fun _ _=>(none,0)⟩)),q:=L.q+1 } (m+1):=by
 have hb2:=hb.trans ((wA w3 (.cells #[.pointer (yA ⟨w2.heap.size+1,0,none⟩),.bool true] 73)).mono hb.size)
 refine ⟨h.addHost hb2 (by have:=rB w3 (.cells #[.pointer (yA ⟨w2.heap.size+1,0,none⟩),.bool true] 73);rwa [hs] at this) (fun R'=>(hat R').out (cJ.below (wA w3 _):cJ (fun _=>False) _ _) (fun x hx=>hx.elim)) (by omega) (fun x hx => ?_) hC hm,fun m hm=>⟨Nat.succ_le_succ hm.1,fun k q hq => ?_⟩⟩
 ·rcases hx with rfl | rfl | ⟨k,b,hx⟩
  ·exact ⟨uE _,Nat.lt_succ_self _⟩
  ·exact ⟨mA _,by dsimp only;omega⟩
  ·exact absurd hx (by simp [zB])
 ·dsimp only at hq
  by_cases e:k=a
  ·subst e
   rw [iF] at hq
   injection hq with hq
   subst hq
   exact Nat.zero_le _
  ·rw [fG _ _ e] at hq
   exact Nat.le_succ_of_le (hm.2 k q hq)
theorem zLH (R : Nat -> Prop) (C : Nat) (L : CL) (c : Cl) (i a b d : Int) (w : uA) (h : iG R w C L c) (hR : ∀ x, w.heap.size <= x -> R x) (m : Nat) (hm : L.ok m) (hm2 : m < 1000000) (ha : (Lit.int .i64 a).wf = true) : iA prog 17 #[.pointer (yA ⟨C, 0, none⟩), .agg #[i, a, b, d]] w (lL R C L 1 w (.int .i64 (c.addN a b d).2) (c.addN a b d).1) := by
 have hal:=wA w (.cells #[i,a,b,d] 32)
 have gI:=rB w (.cells #[i,a,b,d] 32)
 have HH:=fA h
 have HK:=fA (sQ R C L c 0 1 a b d (w.alloc (.cells #[i,a,b,d] 32)) (h.below hal) (fun x hx=>hR x (pA hal.size hx)) (.inl rfl))
 have i1:=jA gI 1
 have i2:=jA gI 2
 have i3:=jA gI 3
 have GI:=fA gI
 have hnI:¬ L.own C w.heap.size:=fun q=>by have:=h.own_lt q;omega
 clear h gI hR
 unfold Cl.addN
 generalize c.knw 1 a b d=z at *
 obtain ⟨c1,e1⟩:=z
 have HZ:jC (Cl.addZ a d (c1,e1)=if e1=0 then ({ c1 with h:=eH c1.h a (yA ⟨newSv d,true⟩) },0) else (c1,e1)):=fA rfl
 go_enter func17,ntmps17
 go_wp2_with (go_at_call 48;refine HK.out.mono ?_;rintro e w2 ⟨rfl,L1,st,hq1⟩;dsimp only at st;by_cases he:e1=0)
 ·subst he
  have HZ2:=HZ.out
  rw [if_pos rfl] at HZ2
  have hS2:=st.chg.size
  have h2:=st.at_
  have gC:=h2.blk
  have gI2:w2.heap[w.heap.size]?=yA (.cells #[i,a,b,d] 32):=by
   obtain ⟨T,hT,hC⟩:=st.chg.list
   exact hC.keep GI.out (fun q=>hnI (hT _ q).1)
  have HSS:jC (∀ V,Below w2.heap.size w2 V -> (fun V:uA=>V.cell? ⟨C,13,none⟩=yA (.map (yA L1.M))/\V.cell? ⟨w.heap.size,1,none⟩=yA (.int .i64 a)/\V.cell? ⟨w.heap.size,3,none⟩=yA (.int .i64 d)) V):=fA fun V hb=>⟨jA (kA hb gC) 13,jA (kA hb gI2) 1,jA (kA hb gI2) 3⟩
  have HM:jC (∀ V,Below w2.heap.size w2 V -> ∀ u,∃ w',(Instr.mapUpdate 46 (.map (yA L1.M)) (.int .i64 a) u).run prog V=.ok () w'/\sX w' L1.M (L1.q+1) (eH (fun k=>hkey (L1.hb k)) a u)/\fD [L1.M] V w'):=fA fun V hb u=>(h2.mp.below hb).store ha u (by have:=(hq1 m hm).1;unfold maxLen;omega)
  have b20:Below w2.heap.size w2 w2.drew:=⟨rfl,rfl,rfl,mA _,fun _ _=>rfl⟩
  have HF:jC (∀ w3 w5,Below w2.heap.size w2 w3 -> w3.heap.size=w2.heap.size+2 -> (∀ R,qS R w3 (w2.heap.size+1) ⟨w2.heap.size,0,none,0,fun _ _=>(none,0)⟩ (newSv d)) -> fD [L1.M] (w3.alloc (.cells #[.pointer (yA ⟨w2.heap.size+1,0,none⟩),.bool true] 73)) w5 -> sX w5 L1.M (L1.q+1) (eH (fun k=>hkey (L1.hb k)) a (.pointer (yA ⟨w2.heap.size+2,0,none⟩))) ->
   rC R C L { L1 with hb:=eH L1.hb a (yA (w2.heap.size+2,w2.heap.size+1,⟨w2.heap.size,0,none,0,fun _ _=>(none,0)⟩)),q:=L1.q+1 } (Cl.addZ a d (c1,0)).1 w w5/\∀ m,L.ok m -> CL.ok { L1 with hb:=eH L1.hb a (yA (w2.heap.size+2,w2.heap.size+1,⟨w2.heap.size,0,none,0,fun _ _=>(none,0)⟩)),q:=L1.q+1 } (m+1)):=fA fun w3 w5 a1 a2 a3 a4 a5=>by
    have:=zPY h2 a1 a2 a3 a4 a5
    rw [HZ2]
    exact ⟨((rC.refl HH.out hal).trans st).trans this.1,fun m hm=>this.2 m (hq1 m hm)⟩
  have HZ3:jC ((Cl.addZ a d (c1,0)).2=0):=fA (by rw [HZ2])
  clear h2 gC gI2 HK HZ2 HZ st hq1 hm
  rw [HZ3.out]
  refine iC (S:=fun V:uA=>V.cell? ⟨C,13,none⟩=yA (.map (yA L1.M))/\V.cell? ⟨w.heap.size,1,none⟩=yA (.int .i64 a)/\V.cell? ⟨w.heap.size,3,none⟩=yA (.int .i64 d)) [11] (HSS.out _ b20) fun hH => ?_
  refine gU [0,1,2,103,4,105,6,107] ?_
  refine oU 8 fun K hK => ?_
  go_simp
  go_at_call 49
  refine (zNd d _).mono ?_
  rintro e w3 ⟨rfl,hb3,hs3,hat3⟩
  refine hK.out _ _ (HSS.out w3 (b20.trans hb3)) fun hH => ?_
  clear hK K
  refine gU [9] ?_
  refine oU 10 fun K hK => ?_
  go_simp
  refine hK.out _ _ (HSS.out _ ((b20.trans hb3).trans ((wA w3 (.cells #[.pointer (yA ⟨w2.heap.size+1,0,none⟩),.bool true] 73)).mono (b20.trans hb3).size))) fun hH => ?_
  clear hK K
  refine tU 11 fun K hK => ?_
  go_simp
  obtain ⟨w5,hrun,hm5,hC5⟩:=HM.out _ ((b20.trans hb3).trans ((wA w3 (.cells #[.pointer (yA ⟨w2.heap.size+1,0,none⟩),.bool true] 73)).mono (b20.trans hb3).size)) (.pointer (yA ⟨w2.heap.size+2,0,none⟩))
  rw [hrun]
  simp only [Result.andThen_ok]
  refine hK.out _ _ ?_
  clear hK K
  refine gU [300] ?_
  have HL:=fA (HF.out w3 w5 (b20.trans hb3) hs3 hat3 hC5 hm5)
  clear hrun hm5 hC5 hat3 hb3 hs3 hH
  go_wp2
  go_ret
  exact ⟨rfl,_,HL.out⟩
 ·have HZ2:=HZ.out
  rw [if_neg he] at HZ2
  rw [HZ2]
  clear HK HZ
  go_wp2
  go_ret
  exact ⟨rfl,L1,(rC.refl HH.out hal).trans st,fun m hm=>(hq1 m hm).mono (uE _)⟩
end Go.Proofs.YtogbpifcmhafkaaGreat
