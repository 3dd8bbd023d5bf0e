/-
 Part PZR of the proof.
-/
import Derived.Test.YtogbpifcmhafkaaGreatPZN
open Go renaming World->uA,bodyPost_ret->fE
open Go.Lib renaming hid->fA
open Go.RowKit renaming Hid->jC
open Go.World renaming ownsRow_nil->nB,setCell->cK,size_alloc->wB
open List renaming mem_singleton->xB
open Option renaming some->yA
namespace Go.Proofs.YtogbpifcmhafkaaGreat
open Go.RowKit Tryz
open Go.Lib(hid)
set_option linter.unusedVariables false
set_option linter.unusedSimpArgs false
set_option maxRecDepth 100000
set_option maxHeartbeats 16000000
theorem zOc (w:uA) (a b c d:Obj):∃ W,W=(((w.alloc a).alloc b).alloc c).alloc d/\Below w.heap.size w W/\W.heap.size=w.heap.size+4/\W.heap[w.heap.size]?=yA a/\W.heap[w.heap.size+1]?=yA b/\W.heap[w.heap.size+2]?=yA c/\W.heap[w.heap.size+3]?=yA d:=by
 have s1:=wB w a
 have s2:=wB (w.alloc a) b
 have s3:=wB ((w.alloc a).alloc b) c
 have s4:=wB (((w.alloc a).alloc b).alloc c) d
 have b1:=wA w a
 have b2:=wA (w.alloc a) b
 have b3:=wA ((w.alloc a).alloc b) c
 have b4:=wA (((w.alloc a).alloc b).alloc c) d
 have g1:=rB w a
 have g2:=rB (w.alloc a) b
 have g3:=rB ((w.alloc a).alloc b) c
 have g4:=rB (((w.alloc a).alloc b).alloc c) d
 rw [s1] at g2;rw [s2,s1] at g3;rw [s3,s2,s1] at g4
 refine ⟨_,rfl,b1.trans ((b2.trans ((b3.trans (b4.mono (by omega))).mono (by omega))).mono (by omega)),by omega,?_,?_,?_,g4⟩
 ·exact kA b4 (kA b3 (kA b2 g1))
 ·exact kA b4 (kA b3 g2)
 ·exact kA b4 g3
theorem zPm {w:uA} {base:Nat} {e:TypeId} {k:Nat} {A:Option Addr} {n c m:Nat} {xs:List Value} (h:w.ownsRow base e k (.slice A n c) m xs):∀ x ∈ zB A,∃ cur fr,w.heap[x]?=yA (Obj.cells cur e fr):=fun x hx=>by
 rcases h.2 with ⟨h2,_⟩ | ⟨g,cap,cur,hv,hg,hh,r⟩
 ·injection h2 with h1
  subst h1
  cases hx
 ·injection hv with h1
  subst h1
  simp only [zB,xB] at hx
  subst hx
  exact ⟨cur,_,hh⟩
theorem zNC (c:uS) (p:zAb):(balF c p).1.length<=p.1.length+1/\(balF c p).2.1.length=p.2.1.length/\(balF c p).2.2.1.length<=p.2.2.1.length+1/\(balF c p).2.2.2.length=p.2.2.2.length:=by
 unfold balF
 split
 ·unfold copyS
  split
  ·rename_i h
   rw [(zDD h).1]
   simp
  ·simp
 ·simp
def zHw (bs:List Bt) (p:zAb) (w:uA) (e:Ending) (w':uA):Prop:=∃ bA bc lA lc dA dc oA oc xA xc,e=.returned (.tuple #[.agg #[.slice bA bs.length bc,.slice lA p.1.length lc,.slice dA p.2.1.length dc],.slice oA p.2.2.1.length oc,.slice xA p.2.2.2.length xc])/\w'.ownsRow w.heap.size 173 2 (.slice bA bs.length bc) bs.length (flat zU bs)/\w'.ownsRow w.heap.size 176 5 (.slice lA p.1.length lc) p.1.length (flat vU p.1)/\w'.ownsRow w.heap.size 105 7 (.slice dA p.2.1.length dc) p.2.1.length (flat qL p.2.1)/\w'.ownsRow w.heap.size 105 7 (.slice oA p.2.2.1.length oc) p.2.2.1.length (flat qL p.2.2.1)/\w'.ownsRow w.heap.size 99 6 (.slice xA p.2.2.2.length xc) p.2.2.2.length (flat zEw p.2.2.2)/\(p.1.length<=100/\p.2.1.length<=10000/\p.2.2.1.length<=10000/\p.2.2.2.length<=10000)/\Below w.heap.size w w'
theorem zMN (nA cA bA lA dA:Option Addr) (nc cc bc lc dc:Nat) (ns:List Nd) (cs:List Ch) (bs:List Bt) (ls:List Le) (ds:List Od) (r1 r2 r3 r4 r5 r6 t:Int) (w:uA) (h1:vS (·<w.heap.size) qH w nA nc ns) (h2:zCj (·<w.heap.size) w cA cc cs) (h3:yB zU w bA bc bs) (h4:yB vU w lA lc ls) (h5:yB qL w dA dc ds)
  (hr:vT (r1,r2,r3,r4,r5,r6)=true) (ht:0<=t/\t<=1000000000) (hn:jH 0 ns=true) (hc:pG cs=true) (hls:ls.length<=100) (hds:ds.length<=9000) :
  Calls prog 50 #[.agg #[.slice nA ns.length nc,.slice cA cs.length cc,.slice none 0 0],.agg #[.slice bA bs.length bc,.slice lA ls.length lc,.slice dA ds.length dc],.agg #[r1,r2,r3,r4,r5,r6],.int .i64 t] w (zHw bs (xO ns cs bs ls ds (r1,r2,r3,r4,r5,r6) t) w):=by
 have HMR:=fA (fun W=>zGh r1 r2 r3 r4 r5 r6 W)
 have HMC:=fA (fun W (hb:Below w.heap.size w W)=>pZ cA cc cs W (h2.in_.below hb))
 have HPS:=fA (fun W (hb:Below w.heap.size w W)=>zIB bA lA dA bc lc dc bs ls ds t W (h3.below hb) (h4.below hb) (h5.below hb))
 rw [hr] at HMR
 rw [hc] at HMC
 generalize hls1:zCc ls t=ls1 at *
 generalize hds1:nE (fU t) ds=ds1 at *
 have HLS:jC (ls1.length<=ls.length):=fA (by rw [<- hls1];exact zMZ ls t)
 have HDS:jC (ds1.length<=ds.length):=fA (by rw [<- hds1];exact wJ _ _)
 go_enter func50,ntmps50
 go_wp2_with fail
 obtain ⟨W4,hW4,hal,hs4,g0,g1,g2,g3⟩:=zOc w (.cells #[.slice nA ns.length nc,.slice cA cs.length cc,.slice none 0 0] 51) (.cells #[.slice bA bs.length bc,.slice lA ls.length lc,.slice dA ds.length dc] 56) (.cells #[r1,r2,r3,r4,r5,r6] 23) (.cells #[.slice none 0 0,.slice none 0 0,.slice none 0 0] 56)
 simp only [wB,Nat.add_assoc,Nat.reduceAdd]
 rw [<- hW4]
 clear hW4
 have HX:jC (∀ V,Below W4.heap.size W4 V -> (V.heap[w.heap.size]?=yA (.cells #[.slice nA ns.length nc,.slice cA cs.length cc,.slice none 0 0] 51)/\V.heap[w.heap.size+1]?=yA (.cells #[.slice bA bs.length bc,.slice lA ls.length lc,.slice dA ds.length dc] 56)/\V.heap[w.heap.size+2]?=yA (.cells #[r1,r2,r3,r4,r5,r6] 23)/\V.heap[w.heap.size+3]?=yA (.cells #[.slice none 0 0,.slice none 0 0,.slice none 0 0] 56))):=fA fun V hb=>⟨kA hb g0,kA hb g1,kA hb g2,kA hb g3⟩
 have c0:=jA g2 0
 have c1:=jA g2 1
 have c2:=jA g2 2
 have c3:=jA g2 3
 have c4:=jA g2 4
 have c5:=jA g2 5
 go_wp2_with (first
  | (go_at_call 15;refine (HMR.out _).mono ?_;rintro e w1 ⟨rfl,hb1⟩;have m1:=jA (HX.out _ hb1).1 1)
  | (go_at_call 101;refine (HMC.out _ (hal.trans (hb1.mono hal.size))).mono ?_;rintro e w2 ⟨rfl,hb2⟩))
 have hb2W:=hb1.trans (hb2.mono hb1.size)
 have b2:=hal.trans (hb2W.mono hal.size)
 have b2d:=b2.drew
 have HS3:jC (∀ V,Below W4.heap.size W4 V -> (fun V:uA=>V.cell? ⟨w.heap.size+1,0,none⟩=yA (.slice bA bs.length bc)/\V.cell? ⟨w.heap.size+1,1,none⟩=yA (.slice lA ls.length lc)/\V.cell? ⟨w.heap.size+1,2,none⟩=yA (.slice dA ds.length dc)/\V.cell? ⟨w.heap.size,0,none⟩=yA (.slice nA ns.length nc)/\V.cell? ⟨w.heap.size,1,none⟩=yA (.slice cA cs.length cc)/\V.cell? ⟨w.heap.size,2,none⟩=yA (.slice none 0 0)/\V.cell? ⟨w.heap.size+2,0,none⟩=yA (.int .i64 r1)/\V.cell? ⟨w.heap.size+2,1,none⟩=yA (.int .i64 r2)/\V.cell? ⟨w.heap.size+2,2,none⟩=yA (.int .i64 r3)/\V.cell? ⟨w.heap.size+2,3,none⟩=yA (.int .i64 r4)/\V.cell? ⟨w.heap.size+2,4,none⟩=yA (.int .i64 r5)/\V.cell? ⟨w.heap.size+2,5,none⟩=yA (.int .i64 r6)) V):=fA fun V hb=>by
  obtain ⟨k0,k1,k2,k3⟩:=HX.out V hb
  exact ⟨jA k1 0,jA k1 1,jA k1 2,jA k0 0,jA k0 1,jA k0 2,jA k2 0,jA k2 1,jA k2 2,jA k2 3,jA k2 4,jA k2 5⟩
 have hS2:(fun V:uA=>V.cell? ⟨w.heap.size+1,0,none⟩=yA (.slice bA bs.length bc)/\V.cell? ⟨w.heap.size+1,1,none⟩=yA (.slice lA ls.length lc)/\V.cell? ⟨w.heap.size+1,2,none⟩=yA (.slice dA ds.length dc)/\V.cell? ⟨w.heap.size,0,none⟩=yA (.slice nA ns.length nc)/\V.cell? ⟨w.heap.size,1,none⟩=yA (.slice cA cs.length cc)/\V.cell? ⟨w.heap.size,2,none⟩=yA (.slice none 0 0)/\V.cell? ⟨w.heap.size+2,0,none⟩=yA (.int .i64 r1)/\V.cell? ⟨w.heap.size+2,1,none⟩=yA (.int .i64 r2)/\V.cell? ⟨w.heap.size+2,2,none⟩=yA (.int .i64 r3)/\V.cell? ⟨w.heap.size+2,3,none⟩=yA (.int .i64 r4)/\V.cell? ⟨w.heap.size+2,4,none⟩=yA (.int .i64 r5)/\V.cell? ⟨w.heap.size+2,5,none⟩=yA (.int .i64 r6)) w2.drew:=HS3.out w2.drew hb2W.drew
 clear c0 c1 c2 c3 c4 c5 g0 g1 g2 g3 m1
 refine iC (S:=fun V:uA=>V.cell? ⟨w.heap.size+1,0,none⟩=yA (.slice bA bs.length bc)/\V.cell? ⟨w.heap.size+1,1,none⟩=yA (.slice lA ls.length lc)/\V.cell? ⟨w.heap.size+1,2,none⟩=yA (.slice dA ds.length dc)/\V.cell? ⟨w.heap.size,0,none⟩=yA (.slice nA ns.length nc)/\V.cell? ⟨w.heap.size,1,none⟩=yA (.slice cA cs.length cc)/\V.cell? ⟨w.heap.size,2,none⟩=yA (.slice none 0 0)/\V.cell? ⟨w.heap.size+2,0,none⟩=yA (.int .i64 r1)/\V.cell? ⟨w.heap.size+2,1,none⟩=yA (.int .i64 r2)/\V.cell? ⟨w.heap.size+2,2,none⟩=yA (.int .i64 r3)/\V.cell? ⟨w.heap.size+2,3,none⟩=yA (.int .i64 r4)/\V.cell? ⟨w.heap.size+2,4,none⟩=yA (.int .i64 r5)/\V.cell? ⟨w.heap.size+2,5,none⟩=yA (.int .i64 r6)) [7,8] hS2 fun hH => ?_
 refine gU [100,1,103,104,5] ?_
 refine oU 2 fun K hK => ?_
 go_simp
 go_at_call 104
 refine (HPS.out _ b2d).mono ?_
 rintro e w3 ⟨bB,bd,lB,ld,dB,dd,rfl,ob,ol,od,hsep,hb3⟩
 have b3:=b2d.trans (hb3.mono b2d.size)
 have hS3:=HS3.out w3 (hb2W.trans ((⟨hb3.os,hb3.tape,hb3.output,hb3.size,hb3.block⟩:Below w2.heap.size w2 w3).mono hb2W.size))
 refine hK.out _ _ (hS3) fun hH => ?_
 clear hK K
 refine gU [6] ?_
 refine tU 7 fun K hK => ?_
 go_simp
 refine hK.out _ _ ?_
 clear hK K
 refine tU 8 fun K hK => ?_
 go_simp
 refine hK.out _ _ ?_
 clear hK K
 refine gU [300] ?_
 go_upto_region 4 with fail
 have hD3:w.heap.size<=w3.heap.size:=b3.size
 have gD:=rB w3 (zRg (.slice bB bs.length bd) (.slice lB ls1.length ld) (.slice dB ds1.length dd) (.slice nA ns.length nc) (.slice cA cs.length cc) (.slice none 0 0) (r1,r2,r3,r4,r5,r6) t (.slice none 0 0) (.slice none 0 0) (.slice none 0 0) (.slice none 0 0))
 have hbD:=wA w3 (zRg (.slice bB bs.length bd) (.slice lB ls1.length ld) (.slice dB ds1.length dd) (.slice nA ns.length nc) (.slice cA cs.length cc) (.slice none 0 0) (r1,r2,r3,r4,r5,r6) t (.slice none 0 0) (.slice none 0 0) (.slice none 0 0) (.slice none 0 0))
 have hbW:=b3.trans (hbD.mono hD3)
 have oB:=fA (jB ob hbD)
 have oL:=fA (jB ol hbD)
 have oD:=fA (jB od hbD)
 have hXW:=HX.out _ ((hb2W.trans ((⟨hb3.os,hb3.tape,hb3.output,hb3.size,hb3.block⟩:Below w2.heap.size w2 w3).mono hb2W.size)).trans (hbD.mono (by have:=hb2W.size;have:=hb3.size;exact Nat.le_trans (by assumption) this)))
 have hBl:=fA (fun x (hx:x ∈ zB bB)=>qC ob x hx)
 have hLl:=fA (fun x (hx:x ∈ zB lB)=>qC ol x hx)
 have hDl:=fA (fun x (hx:x ∈ zB dB)=>qC od x hx)
 have hw2s:w.heap.size+4<=w2.heap.size:=by have:=hb2W.size;omega
 clear ob ol od hS3 hS2
 generalize w3.alloc (zRg (.slice bB bs.length bd) (.slice lB ls1.length ld) (.slice dB ds1.length dd) (.slice nA ns.length nc) (.slice cA cs.length cc) (.slice none 0 0) (r1,r2,r3,r4,r5,r6) t (.slice none 0 0) (.slice none 0 0) (.slice none 0 0) (.slice none 0 0))=W at *
 have HC:jC (∀ V,fD [w3.heap.size] W V -> (V.heap[w.heap.size]?=yA (.cells #[.slice nA ns.length nc,.slice cA cs.length cc,.slice none 0 0] 51)/\V.heap[w.heap.size+1]?=yA (.cells #[.slice bA bs.length bc,.slice lA ls.length lc,.slice dA ds.length dc] 56)/\V.heap[w.heap.size+2]?=yA (.cells #[r1,r2,r3,r4,r5,r6] 23)/\V.heap[w.heap.size+3]?=yA (.cells #[.slice none 0 0,.slice none 0 0,.slice none 0 0] 56))):=fA fun V hc=>⟨hc.keep hXW.1 (by have:=b3.size;have h9:w2.heap.size<=w3.heap.size:=hb3.size;simp;omega),hc.keep hXW.2.1 (by have h9:w2.heap.size<=w3.heap.size:=hb3.size;simp;omega),hc.keep hXW.2.2.1 (by have h9:w2.heap.size<=w3.heap.size:=hb3.size;simp;omega),hc.keep hXW.2.2.2 (by have h9:w2.heap.size<=w3.heap.size:=hb3.size;simp;omega)⟩
 have nD:∀ {A:Option Addr},(∀ x ∈ zB A,w2.drew.heap.size<=x/\x<w3.heap.size) -> ∀ x ∈ zB A,x ∉ [w3.heap.size]:=fun h x hx q=>by have:=h x hx;rw [xB] at q;omega
 have HOB:=fA (fun (V:uA) (hc:fD [w3.heap.size] W V)=>xE oB.out hc (nD hBl.out))
 have HOL:=fA (fun (V:uA) (hc:fD [w3.heap.size] W V)=>xE oL.out hc (nD hLl.out))
 have HOD:=fA (fun (V:uA) (hc:fD [w3.heap.size] W V)=>xE oD.out hc (nD hDl.out))
 have hmb:=h3.max
 have fB:jC (∀ V,fD [w3.heap.size] W V -> yB zU V bB bd bs):=fA fun V hc=>yB.of_own (HOB.out V hc) hmb
 have HLV:=fA (fun V (hf:yB zU V bB bd bs)=>zBZ bB bd bs t r1 V hf)
 have HAL:=fA (zDM bs t r1)
 generalize hal0:jM bs t r1=al at *
 have nlt:∀ x,x<w.heap.size -> x ∉ [w3.heap.size]:=fun x hx q=>by rw [xB] at q;omega
 have HNF:=fA (fun V (hc:fD [w3.heap.size] W V)=>((h1.below hbW).chg hc nlt).1)
 have HSN:=fA (fun V (hc:fD [w3.heap.size] W V)=>zPq cA cc cs dB dd ds1 V (((h2.below hbW).chg hc nlt).in_) (yB.of_own (HOD.out V hc) (by have:=HDS.out;omega)))
 have HSE:=fA (show (bX cs ds1).length<=32/\∀ x ∈ bX cs ds1,x.2.2.2.length<=16 from ⟨by rw [zGv];exact zBu hc,zPo hc⟩)
 generalize hse0:bX cs ds1=se at *
 refine iC (S:=fun V:uA=>V.cell? ⟨w3.heap.size,0,none⟩=yA (.slice bB bs.length bd)/\V.cell? ⟨w.heap.size+2,0,none⟩=yA (.int .i64 r1)) [12] ⟨jA (iB gD) 0,jA (HC.out W.drew (fD.refl _ W).drew).2.2.1 0⟩ fun hH => ?_
 refine gU [0,1,2,3,4,105,6,7,108] ?_
 refine oU 9 fun K hK => ?_
 go_simp
 go_at_call 58
 refine (HLV.out W.drew (fB.out _ (fD.refl _ W).drew)).mono ?_
 rintro e w5 ⟨vA,vc,rfl,ov,hb5⟩
 have hc5:fD [w3.heap.size] W w5:=fD.of_below ⟨hb5.os,hb5.tape,hb5.output,hb5.size,hb5.block⟩
 have gD5:=kA hb5 (iB gD)
 have d13:=jA gD5 13
 have f13:=qB gD5 13
 refine hK.out _ _ (⟨jA gD5 0,jA (HC.out _ hc5).2.2.1 0⟩) fun hH => ?_
 clear hK K
 refine gU [10,11] ?_
 refine tU 12 fun K hK => ?_
 go_simp
 refine hK.out _ _ ?_
 clear hK K
 refine gU [300] ?_
 go_upto_region 5 with fail
 have hDne:∀ x ∈ zB vA,x ∉ [w3.heap.size]:=fun x hx q=>by have h1:=(qC ov x hx).1;have h2:W.heap.size<=x:=h1;have:=eB gD;rw [xB] at q;omega
 have hvl:=fA (fun x (hx:x ∈ zB vA)=>(qC ov x hx).2)
 have hS13:fD [w3.heap.size] w5 (w5.setCell ⟨w3.heap.size,13,none⟩ (.slice vA al.length vc)):=(fD.refl _ _).setCell (.inl (by simp)) 13 _
 have gD5:(w5.setCell ⟨w3.heap.size,13,none⟩ (.slice vA al.length vc)).heap[w3.heap.size]?=yA (zRg (.slice bB bs.length bd) (.slice lB ls1.length ld) (.slice dB ds1.length dd) (.slice nA ns.length nc) (.slice cA cs.length cc) (.slice none 0 0) (r1,r2,r3,r4,r5,r6) t (.slice vA al.length vc) (.slice none 0 0) (.slice none 0 0) (.slice none 0 0)):=by simpa using zD (i:=13) gD5 (.slice vA al.length vc)
 have ov5:=xE ov hS13 hDne
 have hc5w:fD [w3.heap.size] W (w5.setCell ⟨w3.heap.size,13,none⟩ (.slice vA al.length vc)):=hc5.trans hS13 (fun x hx=>.inl hx)
 have hWD:=eB gD
 have hvl2:=fA (fun x (hx:x ∈ zB vA)=>(show W.heap.size<=x from (qC ov x hx).1))
 have h5s:w5.heap.size=(w5.setCell ⟨w3.heap.size,13,none⟩ (.slice vA al.length vc)).heap.size:=by simp [cK]
 rw [h5s] at hvl
 clear ov hS13 d13 f13 h5s
 generalize w5.setCell ⟨w3.heap.size,13,none⟩ (.slice vA al.length vc)=W5 at *
 refine iC (S:=fun V:uA=>V.cell? ⟨w.heap.size,1,none⟩=yA (.slice cA cs.length cc)/\V.cell? ⟨w3.heap.size,2,none⟩=yA (.slice dB ds1.length dd)) [11] ⟨jA (HC.out W5.drew hc5w.drew).1 1,jA (iB gD5) 2⟩ fun hH => ?_
 refine gU [0,1,102,3,4,5,6,107] ?_
 refine oU 8 fun K hK => ?_
 go_simp
 go_at_call 105
 refine (HSN.out W5.drew hc5w.drew).mono ?_
 rintro e w6 ⟨eA,ec,rfl,oe,hb6⟩
 have hc6:fD [w3.heap.size] W w6:=hc5w.drew.below hb6
 have gD6:=kA hb6 (iB gD5)
 have d14:=jA gD6 14
 have f14:=qB gD6 14
 refine hK.out _ _ (⟨jA (HC.out _ hc6).1 1,jA gD6 2⟩) fun hH => ?_
 clear hK K
 refine gU [9,10] ?_
 refine tU 11 fun K hK => ?_
 go_simp
 refine hK.out _ _ ?_
 clear hK K
 refine gU [300] ?_
 go_upto_region 6 with fail
 have hS14:fD [w3.heap.size] w6 (w6.setCell ⟨w3.heap.size,14,none⟩ (.slice eA se.length ec)):=(fD.refl _ _).setCell (.inl (by simp)) 14 _
 have gD6:(w6.setCell ⟨w3.heap.size,14,none⟩ (.slice eA se.length ec)).heap[w3.heap.size]?=yA (zRg (.slice bB bs.length bd) (.slice lB ls1.length ld) (.slice dB ds1.length dd) (.slice nA ns.length nc) (.slice cA cs.length cc) (.slice none 0 0) (r1,r2,r3,r4,r5,r6) t (.slice vA al.length vc) (.slice eA se.length ec) (.slice none 0 0) (.slice none 0 0)):=by simpa using zD (i:=14) gD6 (.slice eA se.length ec)
 have h5D:=eB gD5
 have oe6:=lH.chg (show lH w6 W5.drew.heap.size eA ec se from oe) hS14 (fun x hx=>by rw [xB] at hx;rw [hx];exact h5D)
 have ov6:=xE (jB (sI ov5) hb6) hS14 hDne
 have hc6w:fD [w3.heap.size] W (w6.setCell ⟨w3.heap.size,14,none⟩ (.slice eA se.length ec)):=hc6.trans hS14 (fun x hx=>.inl hx)
 clear oe ov5 hS14 d14 f14
 have HW6S:=fA (show w6.heap.size<=(w6.setCell ⟨w3.heap.size,14,none⟩ (.slice eA se.length ec)).heap.size from by simp [cK])
 generalize w6.setCell ⟨w3.heap.size,14,none⟩ (.slice eA se.length ec)=W6 at *
 have hsl:=HSE.out.1
 have hfe:vM W6.drew eA ec se:=(zCj.chg (oe6.q (by omega)) ((fD.refl [] W6).drew) (fun x _ hx=>by cases hx)).in_
 have hfn:=HNF.out W6.drew hc6w.drew
 have hfv:yB kG W6.drew vA vc al:=yB.of_own (sI ov6) (by have:=HAL.out;omega)
 have HND:=fA (fun V hfe hfn hfv=>zMx eA nA vA ec nc vc se ns al r4 V hfe hfn hfv)
 have HNL:=fA (zMz se ns al r4)
 have HNB:=fA (zMy (ns:=ns) (alive:=al) (want:=r4) HSE.out.2)
 generalize hnl0:yY se ns al r4=nl at *
 refine iC (S:=fun V:uA=>V.cell? ⟨w3.heap.size,14,none⟩=yA (.slice eA se.length ec)/\V.cell? ⟨w.heap.size,0,none⟩=yA (.slice nA ns.length nc)/\V.cell? ⟨w3.heap.size,13,none⟩=yA (.slice vA al.length vc)/\V.cell? ⟨w.heap.size+2,3,none⟩=yA (.int .i64 r4)) [13] ⟨jA (iB gD6) 14,jA (HC.out W6.drew hc6w.drew).1 0,jA (iB gD6) 13,jA (HC.out W6.drew hc6w.drew).2.2.1 3⟩ fun hH => ?_
 refine gU [0,1,2,103,4,105,6,7,8,109,10,111] ?_
 refine oU 12 fun K hK => ?_
 go_simp
 go_at_call 106
 refine (HND.out W6.drew hfe hfn hfv).mono ?_
 rintro e w7 ⟨qA,qc,rfl,oq,hb7⟩
 have hc7:fD [w3.heap.size] W w7:=hc6w.drew.below hb7
 have gD7:=kA hb7 (iB gD6)
 refine hK.out _ _ (⟨jA gD7 14,jA (HC.out _ hc7).1 0,jA gD7 13,jA (HC.out _ hc7).2.2.1 3⟩) fun hH => ?_
 clear hK K
 refine tU 13 fun K hK => ?_
 go_simp
 refine hK.out _ _ ?_
 clear hK K
 refine gU [300] ?_
 go_upto_region 7 with fail
 have hb73:w2.heap.size<=w3.heap.size:=hb3.size
 have h67:W6.heap.size<=w7.heap.size:=hb7.size
 have hW7:W.heap.size<=w7.heap.size:=hc7.size
 have hW5s:W.heap.size<=W5.heap.size:=hc5w.size
 have hW6s:W5.heap.size<=W6.heap.size:=by have h9:W5.heap.size<=w6.heap.size:=hb6.size;have:=HW6S.out;omega
 have hdl:∀ x ∈ zB dB,w2.heap.size<=x/\x<w3.heap.size:=fun x hx=>hDl.out x hx
 have hll:∀ x ∈ zB lB,w2.heap.size<=x/\x<w3.heap.size:=fun x hx=>hLl.out x hx
 have hQlo:∀ x,x<w.heap.size -> (x<w7.heap.size/\x≠w3.heap.size/\x ∉ zB dB):=fun x hx=>⟨by omega,by omega,fun q=>by have:=hdl x q;omega⟩
 have hQhi:∀ x,w3.heap.size<x -> x<w7.heap.size -> (x<w7.heap.size/\x≠w3.heap.size/\x ∉ zB dB):=fun x h1 h2=>⟨h2,by omega,fun q=>by have:=hdl x q;omega⟩
 have hS0:∀ x,x ∈ uQ.S w3.heap.size (⟨ls1,lB,ld,ds1,dB,dd,[],none,0,[],none,0⟩:uQ) ↔ x=w3.heap.size\/x ∈ zB dB:=fun x=>by
  rw [uQ.inS]
  simp [zB]
 have hse16:=HSE.out.1
 have q1:fW (fun x=>x<w7.heap.size/\x≠w3.heap.size/\x ∉ zB dB) w.heap.size w7 w3.heap.size (⟨.slice bB bs.length bd,.slice none 0 0,(r1,r2,r3,r4,r5,r6),t,ns,nA,nc,cs,cA,cc,al,vA,vc,se,eA,ec⟩:uS) (⟨ls1,lB,ld,ds1,dB,dd,[],none,0,[],none,0⟩:uQ):={
  blk:=gD7
  lo:=mQ (HOL.out w7 hc7) (fun x hx=>by have:=hll x hx;omega)
  dr:=mQ (HOD.out w7 hc7) (fun x hx=>by have:=hdl x hx;omega)
  oo:=nB _ _ _ _
  xo:=nB _ _ _ _
  ns:=((h1.below hbW).chg hc7 nlt).mono hQlo
  cs:=((h2.below hbW).chg hc7 nlt).mono hQlo
  al:=⟨hfv.below hb7,fun x hx=>hQhi x (by have:=hvl2.out x hx;omega) (by have:=hvl.out x hx;omega)⟩
  se:=(((oe6.q (by omega)).chg ((fD.refl [] W6).drew) (fun x _ hx=>by cases hx)).below hb7).mono (fun x hx=>hQhi x (by have h9:W5.heap.size<=x:=hx.1;omega) (by have:=hx.2;omega))
  lt:=fun x hx=>hx.1
  nq:=fun x hx q=>((hS0 x).1 hx).elim q.2.1 q.2.2
  nl:=fun x hx q=>((hS0 x).1 q).elim (fun e=>by have:=hll x hx;omega) (fun e=>(hsep x e).2 hx)
  ad:=fun q=>by
   have h9:w3.heap.size ∈ zB dB:=by simpa [zB] using q
   have:=hdl _ h9
   omega
  ao:=fun x _ q=>by simp [zB] at q
  ax:=fun x hx=>by simp [zB] at hx
  hb:=⟨b3.size,by omega⟩ }
 have HRD:=fA q1
 have hNL:vS (fun x=>x<w7.heap.size/\x≠w3.heap.size/\x ∉ zB dB) zDO w7 qA qc nl:=⟨yB.of_own oq (by have:=HNL.out;omega),fun x hx=>hQhi x (by have h9:W6.heap.size<=x:=(qC oq x hx).1;omega) (qC oq x hx).2⟩
 have HO:jC (zPT (⟨.slice bB bs.length bd,.slice none 0 0,(r1,r2,r3,r4,r5,r6),t,ns,nA,nc,cs,cA,cc,al,vA,vc,se,eA,ec⟩:uS)):=fA ⟨hr,ht,hn,by have:=zBu hc;dsimp only;omega,by dsimp only;omega,fun x hx=>by have:=HSE.out.2 x hx;omega⟩
 have HRP:=fA (zKM _ w.heap.size w3.heap.size (⟨.slice bB bs.length bd,.slice none 0 0,(r1,r2,r3,r4,r5,r6),t,ns,nA,nc,cs,cA,cc,al,vA,vc,se,eA,ec⟩:uS) (⟨ls1,lB,ld,ds1,dB,dd,[],none,0,[],none,0⟩:uQ) 9000 qA qc nl w7 HRD.out HO.out ⟨by have:=HLS.out;dsimp only;omega,by have:=HDS.out;dsimp only;omega,by dsimp only;simp,by dsimp only;simp⟩ (by decide) hNL (by have:=HNL.out;omega) HNB.out (fun t'=>by have:=zFT hc t';dsimp only;omega))
 have HROW:=fA (HOB.out w7 hc7)
 have hR7:=(HC.out w7 hc7).2.2.2
 have hRD:w.heap.size+3≠w3.heap.size:=by omega
 have hRS:w.heap.size+3 ∉ uQ.S w3.heap.size (⟨ls1,lB,ld,ds1,dB,dd,[],none,0,[],none,0⟩:uQ):=fun q=>((hS0 _).1 q).elim (fun e=>hRD e) (fun e=>by have:=hdl _ e;omega)
 have hBS:∀ x ∈ zB bB,x ∉ uQ.S w3.heap.size (⟨ls1,lB,ld,ds1,dB,dd,[],none,0,[],none,0⟩:uQ):=fun x hx q=>((hS0 x).1 q).elim (fun e=>by have h9:=hBl.out x hx;omega) (fun e=>(hsep x e).1 hx)
 have hbel7:Below w.heap.size w w7:=hbW.trans (hc7.to_below (fun x hx=>by rw [xB] at hx;omega) hbW.size)
 have HRF:jC (xO ns cs bs ls ds (r1,r2,r3,r4,r5,r6) t=zHi (zQB cs ns al se (r1,r2,r3,r4,r5,r6) t) (ls1,ds1,[],[])):=fA (by unfold xO zDz;rw [hls1,hds1,hal0,hse0])
 have hSge:∀ x ∈ uQ.S w3.heap.size (⟨ls1,lB,ld,ds1,dB,dd,[],none,0,[],none,0⟩:uQ),w.heap.size<=x:=fun x hx=>((hS0 x).1 hx).elim (fun e=>by rw [e];exact b3.size) (fun e=>by have:=hdl x e;omega)
 have HNN:jC (zHj (zQB cs ns al se (r1,r2,r3,r4,r5,r6) t)=nl):=fA hnl0
 have hcore:uS.core (⟨.slice bB bs.length bd,.slice none 0 0,(r1,r2,r3,r4,r5,r6),t,ns,nA,nc,cs,cA,cc,al,vA,vc,se,eA,ec⟩:uS)=zQB cs ns al se (r1,r2,r3,r4,r5,r6) t:=rfl
 have HCO:=fA hcore
 have HSL:jC (((⟨.slice bB bs.length bd,.slice none 0 0,(r1,r2,r3,r4,r5,r6),t,ns,nA,nc,cs,cA,cc,al,vA,vc,se,eA,ec⟩:uS)).se.length<=32):=fA hse16
 have HG:=fA (⟨hR7,hRD,hRS,hBS,hbel7,hsep,hSge⟩:_/\_/\_/\_/\_/\_/\_)
 clear q1 hS0 hSge hR7 hRD hRS hBS hbel7 hsep hcore hls1 hds1 hal0 hse0 hnl0 gD gD5 gD6 gD7 hXW h1 h2 h3 h4 h5 hfe hfn hfv ov6 oe6 oq hNL
 generalize hcc0:(⟨.slice bB bs.length bd,.slice none 0 0,(r1,r2,r3,r4,r5,r6),t,ns,nA,nc,cs,cA,cc,al,vA,vc,se,eA,ec⟩:uS)=c at *
 generalize hmm0:(⟨ls1,lB,ld,ds1,dB,dd,[],none,0,[],none,0⟩:uQ)=m0 at *
 go_upto_region 9 with (first
  | (go_at_call 107;refine HRP.out.mono ?_;rintro e w8 ⟨m1,rfl,hp1,ok1,st1⟩;have HT:=fA (zNj _ w.heap.size w3.heap.size c m1 9100 w8 st1.at_ HO.out ok1 (by decide)))
  | (go_at_call 108;refine HT.out.mono ?_;rintro e w9 ⟨m2,rfl,hp2,ok2,st2⟩))
 have hco:c.core=(zQB cs ns al se (r1,r2,r3,r4,r5,r6) t):=by rw [<- hcc0];rfl
 have hpm:m0.p=(ls1,ds1,[],[]):=by rw [<- hmm0];rfl
 have hcse:c.se=((zQB cs ns al se (r1,r2,r3,r4,r5,r6) t)).se:=by rw [<- hcc0];rfl
 have HPT:m2.p=zCI (zQB cs ns al se (r1,r2,r3,r4,r5,r6) t) (ls1,ds1,[],[]):=by
  unfold zCI
  rw [hp2,zJc,hp1,zHf,hco,hpm,HNN.out,hcse]
 have HRB:jC (xO ns cs bs ls ds (r1,r2,r3,r4,r5,r6) t=if (decide (nl.length=0) && (decide (m2.ls.length=0) && decide (m2.ds.length=0)))=true then balF c m2.p else m2.p):=fA (by
  rw [HRF.out]
  unfold zHi
  rw [HNN.out,<- HPT,zLD c,hco]
  rfl)
 have st12:=st1.trans st2
 have hcbv:c.bv=.slice bB bs.length bd:=by rw [<- hcc0]
 have HE:jC (∀ (m3:uQ) (w10:uA),sG (fun x=>x<w7.heap.size/\x≠w3.heap.size/\x ∉ zB dB) w.heap.size w3.heap.size c m0 m3 w7 w10 -> xO ns cs bs ls ds (r1,r2,r3,r4,r5,r6) t=m3.p -> (m3.ls.length<=100/\m3.ds.length<=10000/\m3.os.length<=10000/\m3.xs.length<=10000) ->
   zHw bs (xO ns cs bs ls ds (r1,r2,r3,r4,r5,r6) t) w (.returned (.tuple #[.agg #[.slice bB bs.length bd,.slice m3.lA m3.ls.length m3.lc,.slice m3.dA m3.ds.length m3.dc],.slice m3.oA m3.os.length m3.oc,.slice m3.xA m3.xs.length m3.xc])) ((((w10.setCell ⟨w.heap.size+3,0,none⟩ (.slice bB bs.length bd)).setCell ⟨w.heap.size+3,1,none⟩ (.slice m3.lA m3.ls.length m3.lc)).setCell ⟨w.heap.size+3,2,none⟩ (.slice m3.dA m3.ds.length m3.dc)).drew)):=fA fun m3 w10 st hp hbd=>by
  rw [hp]
  obtain ⟨hR7,hRD,hRS,hBS,hbel7,hsep,hSge⟩:=HG.out
  have nR:∀ {e:TypeId} {k q c:Nat} {A:Option Addr} {xs:List Value},w10.ownsRow w.heap.size e k (.slice A q c) q xs -> (∀ x ∈ zB A,x≠w.heap.size+3) -> ((((w10.setCell ⟨w.heap.size+3,0,none⟩ (.slice bB bs.length bd)).setCell ⟨w.heap.size+3,1,none⟩ (.slice m3.lA m3.ls.length m3.lc)).setCell ⟨w.heap.size+3,2,none⟩ (.slice m3.dA m3.ds.length m3.dc)).drew).ownsRow w.heap.size e k (.slice A q c) q xs:=fun h1 h2=>sI (rE (rE (rE h1 h2 0 _) h2 1 _) h2 2 _)
  have hold:w.heap.size+3<w7.heap.size:=eB hR7
  have fr:∀ x ∈ uQ.S w3.heap.size m3,x≠w.heap.size+3:=fun x hx e=>by
   subst e
   rcases st.fr _ hx with q | q
   ·exact hRS q
   ·omega
  have hfar:∀ x ∈ zB m3.lA,x≠w.heap.size+3:=fun x hx e=>by
   subst e
   obtain ⟨cur,fr',hh⟩:=zPm st.at_.lo _ hx
   rw [st.chg.keep hR7 hRS] at hh
   injection hh with hh
   injection hh with _ ht
   exact absurd ht (by decide)
  refine ⟨bB,bd,m3.lA,m3.lc,m3.dA,m3.dc,m3.oA,m3.oc,m3.xA,m3.xc,rfl,nR (mQ (xE HROW.out st.chg hBS) (fun x hx=>by have:=hBl.out x hx;have h9:w2.heap.size<=x:=this.1;omega)) (fun x hx=>by have:=hBl.out x hx;have h9:w2.heap.size<=x:=this.1;omega),nR st.at_.lo hfar,nR st.at_.dr (fun x hx=>fr x (uQ.inS.2 (.inr (.inl hx)))),nR st.at_.oo (fun x hx=>fr x (uQ.inS.2 (.inr (.inr (.inl hx))))),nR st.at_.xo (fun x hx=>fr x (uQ.inS.2 (.inr (.inr (.inr hx))))),hbd,?_⟩
  have h3b:w.heap.size<=w.heap.size+3:=by omega
  exact ((((hbel7.trans (st.chg.to_below hSge hbel7.size)).setCell (p:=⟨w.heap.size+3,0,none⟩) h3b _).setCell (p:=⟨w.heap.size+3,1,none⟩) h3b _).setCell (p:=⟨w.heap.size+3,2,none⟩) h3b _).drew
 clear HPT hpm hcse hco hp1 hp2
 by_cases e1:nl.length=0
 ·by_cases e2:m2.ls.length=0
  ·by_cases e3:m2.ds.length=0
   ·have e1i:(nl.length:Int)=0:=by omega
    have e2i:(m2.ls.length:Int)=0:=by omega
    have e3i:(m2.ds.length:Int)=0:=by omega
    have k1:=jA st2.at_.blk 1
    have k2:=jA st2.at_.blk 2
    have HBA:=fA (zGJ _ w.heap.size w3.heap.size c m2 w9 st2.at_ HO.out ok2.ls (by have:=ok2.os;have:=HSL.out;omega))
    have HBB:=fA (zNC c m2.p)
    go_wp2_with (go_at_call 109;refine HBA.out.mono ?_;rintro e w10 ⟨m3,rfl,hp3,st3⟩)
    have hb3':=HBB.out
    rw [<- hp3] at hb3'
    have hpp:xO ns cs bs ls ds (r1,r2,r3,r4,r5,r6) t=m3.p:=by rw [HRB.out,e1,e2,e3,hp3];rfl
    have HB3':=fA hb3'
    have HE2:=fA e2
    clear k1 k2 hp3 hb3' e1 e2 e3 e1i e2i e3i
    have ST:=fA (st12.trans st3)
    have HE1:=fA (HE.out m3 w10 ST.out (hpp) (⟨by have:=HE2.out;have h9:m3.ls.length<=m2.ls.length+1:=HB3'.out.1;omega,by have:=ok2.ds;have:=HSL.out;have h9:m3.ds.length=m2.ds.length:=HB3'.out.2.1;omega,by have:=ok2.os;have:=HSL.out;have h9:m3.os.length<=m2.os.length+1:=HB3'.out.2.2.1;omega,by have:=ok2.xs;have:=HSL.out;have h9:m3.xs.length=m2.xs.length:=HB3'.out.2.2.2;omega⟩))
    clear hpp
    have gDD:=ST.out.at_.blk
    have gRR:=ST.out.chg.keep HG.out.1 HG.out.2.2.1
    have p0:w10.cell? ⟨w3.heap.size,0,none⟩=yA (.slice bB bs.length bd):=by rw [<- hcbv];exact jA gDD 0
    have p1:=jA gDD 1
    have p2:=jA gDD 2
    have p15:=jA gDD 15
    have p16:=jA gDD 16
    have hS11:(fun V:uA=>V.cell? ⟨w3.heap.size,0,none⟩=yA (.slice bB bs.length bd)/\V.cell? ⟨w3.heap.size,1,none⟩=yA (.slice m3.lA m3.ls.length m3.lc)/\V.cell? ⟨w3.heap.size,2,none⟩=yA (.slice m3.dA m3.ds.length m3.dc)/\V.cell? ⟨w3.heap.size,15,none⟩=yA (.slice m3.oA m3.os.length m3.oc)/\V.cell? ⟨w3.heap.size,16,none⟩=yA (.slice m3.xA m3.xs.length m3.xc)) w10.drew:=⟨p0,p1,p2,p15,p16⟩
    have hRD:=HG.out.2.1
    have gDF:=iB (pC (pC (pC (F:=w3.heap.size) gDD (Ne.symm hRD) (i:=0) (.slice bB bs.length bd)) (Ne.symm hRD) (i:=1) (.slice m3.lA m3.ls.length m3.lc)) (Ne.symm hRD) (i:=2) (.slice m3.dA m3.ds.length m3.dc))
    have HS12:=fA (show (fun V:uA=>V.cell? ⟨w3.heap.size,0,none⟩=yA (.slice bB bs.length bd)/\V.cell? ⟨w3.heap.size,1,none⟩=yA (.slice m3.lA m3.ls.length m3.lc)/\V.cell? ⟨w3.heap.size,2,none⟩=yA (.slice m3.dA m3.ds.length m3.dc)/\V.cell? ⟨w3.heap.size,15,none⟩=yA (.slice m3.oA m3.os.length m3.oc)/\V.cell? ⟨w3.heap.size,16,none⟩=yA (.slice m3.xA m3.xs.length m3.xc)) ((((w10.setCell ⟨w.heap.size+3,0,none⟩ (.slice bB bs.length bd)).setCell ⟨w.heap.size+3,1,none⟩ (.slice m3.lA m3.ls.length m3.lc)).setCell ⟨w.heap.size+3,2,none⟩ (.slice m3.dA m3.ds.length m3.dc)).drew) from ⟨(jA gDF 0).trans (congrArg yA hcbv),jA gDF 1,jA gDF 2,jA gDF 15,jA gDF 16⟩)
    have r0:=jA gRR 0
    have r1:=jA gRR 1
    have r2:=jA gRR 2
    have s0:=qB gRR 0
    have s1:=qB gRR 1
    have s2:=qB gRR 2
    have hRF:=xI gRR (.slice bB bs.length bd) (.slice m3.lA m3.ls.length m3.lc) (.slice m3.dA m3.ds.length m3.dc)
    have HRF2:=fA (iB hRF)
    clear gDD gRR gDF hRD hRF p0 p1 p2 p15 p16
    refine iC (S:=fun V:uA=>V.cell? ⟨w3.heap.size,0,none⟩=yA (.slice bB bs.length bd)/\V.cell? ⟨w3.heap.size,1,none⟩=yA (.slice m3.lA m3.ls.length m3.lc)/\V.cell? ⟨w3.heap.size,2,none⟩=yA (.slice m3.dA m3.ds.length m3.dc)/\V.cell? ⟨w3.heap.size,15,none⟩=yA (.slice m3.oA m3.os.length m3.oc)/\V.cell? ⟨w3.heap.size,16,none⟩=yA (.slice m3.xA m3.xs.length m3.xc)) [14] hS11 fun hH => ?_
    refine gU [0,1,2,103,4,5,6,107,8,9,10,111] ?_
    refine oU 12 fun K hK => ?_
    go_simp
    refine hK.out _ _ (HS12.out) fun hH => ?_
    clear hK K
    refine gU [13] ?_
    refine tU 14 fun K hK => ?_
    go_simp
    refine hK.out _ _ ?_
    clear hK K
    refine gU [300] ?_
    clear hH r0 r1 r2 s0 s1 s2 hS11
    have z0:=jA HRF2.out 0
    have z1:=jA HRF2.out 1
    have z2:=jA HRF2.out 2
    generalize ((((w10.setCell ⟨w.heap.size+3,0,none⟩ (.slice bB bs.length bd)).setCell ⟨w.heap.size+3,1,none⟩ (.slice m3.lA m3.ls.length m3.lc)).setCell ⟨w.heap.size+3,2,none⟩ (.slice m3.dA m3.ds.length m3.dc)).drew)=WF at *
    go_wp2
    refine fE (v:=(.tuple #[.agg #[.slice bB bs.length bd,.slice m3.lA m3.ls.length m3.lc,.slice m3.dA m3.ds.length m3.dc],.slice m3.oA m3.os.length m3.oc,.slice m3.xA m3.xs.length m3.xc])) (by simp [results,results50,go_sem,z0,z1,z2]) rfl ?_
    exact HE1.out
   ·have e1i:(nl.length:Int)=0:=by omega
    have e2i:(m2.ls.length:Int)=0:=by omega
    have e3i:¬ (m2.ds.length:Int)=0:=by omega
    have k1:=jA st2.at_.blk 1
    have k2:=jA st2.at_.blk 2
    have hpp:xO ns cs bs ls ds (r1,r2,r3,r4,r5,r6) t=m2.p:=by rw [HRB.out,e1,e2,decide_eq_false e3];rfl
    have HPP:=fA hpp
    clear hpp
    go_wp2
    have hpp:=HPP.out
    clear k1 k2 e1 e2 e1i e2i e3 e3i
    have ST:=fA (st12)
    have HE1:=fA (HE.out m2 w9 ST.out (hpp) (⟨ok2.ls,by have:=ok2.ds;have:=HSL.out;omega,by have:=ok2.os;have:=HSL.out;omega,by have:=ok2.xs;have:=HSL.out;omega⟩))
    clear hpp
    have gDD:=ST.out.at_.blk
    have gRR:=ST.out.chg.keep HG.out.1 HG.out.2.2.1
    have p0:w9.cell? ⟨w3.heap.size,0,none⟩=yA (.slice bB bs.length bd):=by rw [<- hcbv];exact jA gDD 0
    have p1:=jA gDD 1
    have p2:=jA gDD 2
    have p15:=jA gDD 15
    have p16:=jA gDD 16
    have hS11:(fun V:uA=>V.cell? ⟨w3.heap.size,0,none⟩=yA (.slice bB bs.length bd)/\V.cell? ⟨w3.heap.size,1,none⟩=yA (.slice m2.lA m2.ls.length m2.lc)/\V.cell? ⟨w3.heap.size,2,none⟩=yA (.slice m2.dA m2.ds.length m2.dc)/\V.cell? ⟨w3.heap.size,15,none⟩=yA (.slice m2.oA m2.os.length m2.oc)/\V.cell? ⟨w3.heap.size,16,none⟩=yA (.slice m2.xA m2.xs.length m2.xc)) w9.drew:=⟨p0,p1,p2,p15,p16⟩
    have hRD:=HG.out.2.1
    have gDF:=iB (pC (pC (pC (F:=w3.heap.size) gDD (Ne.symm hRD) (i:=0) (.slice bB bs.length bd)) (Ne.symm hRD) (i:=1) (.slice m2.lA m2.ls.length m2.lc)) (Ne.symm hRD) (i:=2) (.slice m2.dA m2.ds.length m2.dc))
    have HS12:=fA (show (fun V:uA=>V.cell? ⟨w3.heap.size,0,none⟩=yA (.slice bB bs.length bd)/\V.cell? ⟨w3.heap.size,1,none⟩=yA (.slice m2.lA m2.ls.length m2.lc)/\V.cell? ⟨w3.heap.size,2,none⟩=yA (.slice m2.dA m2.ds.length m2.dc)/\V.cell? ⟨w3.heap.size,15,none⟩=yA (.slice m2.oA m2.os.length m2.oc)/\V.cell? ⟨w3.heap.size,16,none⟩=yA (.slice m2.xA m2.xs.length m2.xc)) ((((w9.setCell ⟨w.heap.size+3,0,none⟩ (.slice bB bs.length bd)).setCell ⟨w.heap.size+3,1,none⟩ (.slice m2.lA m2.ls.length m2.lc)).setCell ⟨w.heap.size+3,2,none⟩ (.slice m2.dA m2.ds.length m2.dc)).drew) from ⟨(jA gDF 0).trans (congrArg yA hcbv),jA gDF 1,jA gDF 2,jA gDF 15,jA gDF 16⟩)
    have r0:=jA gRR 0
    have r1:=jA gRR 1
    have r2:=jA gRR 2
    have s0:=qB gRR 0
    have s1:=qB gRR 1
    have s2:=qB gRR 2
    have hRF:=xI gRR (.slice bB bs.length bd) (.slice m2.lA m2.ls.length m2.lc) (.slice m2.dA m2.ds.length m2.dc)
    have HRF2:=fA (iB hRF)
    clear gDD gRR gDF hRD hRF p0 p1 p2 p15 p16
    refine iC (S:=fun V:uA=>V.cell? ⟨w3.heap.size,0,none⟩=yA (.slice bB bs.length bd)/\V.cell? ⟨w3.heap.size,1,none⟩=yA (.slice m2.lA m2.ls.length m2.lc)/\V.cell? ⟨w3.heap.size,2,none⟩=yA (.slice m2.dA m2.ds.length m2.dc)/\V.cell? ⟨w3.heap.size,15,none⟩=yA (.slice m2.oA m2.os.length m2.oc)/\V.cell? ⟨w3.heap.size,16,none⟩=yA (.slice m2.xA m2.xs.length m2.xc)) [14] hS11 fun hH => ?_
    refine gU [0,1,2,103,4,5,6,107,8,9,10,111] ?_
    refine oU 12 fun K hK => ?_
    go_simp
    refine hK.out _ _ (HS12.out) fun hH => ?_
    clear hK K
    refine gU [13] ?_
    refine tU 14 fun K hK => ?_
    go_simp
    refine hK.out _ _ ?_
    clear hK K
    refine gU [300] ?_
    clear hH r0 r1 r2 s0 s1 s2 hS11
    have z0:=jA HRF2.out 0
    have z1:=jA HRF2.out 1
    have z2:=jA HRF2.out 2
    generalize ((((w9.setCell ⟨w.heap.size+3,0,none⟩ (.slice bB bs.length bd)).setCell ⟨w.heap.size+3,1,none⟩ (.slice m2.lA m2.ls.length m2.lc)).setCell ⟨w.heap.size+3,2,none⟩ (.slice m2.dA m2.ds.length m2.dc)).drew)=WF at *
    go_wp2
    refine fE (v:=(.tuple #[.agg #[.slice bB bs.length bd,.slice m2.lA m2.ls.length m2.lc,.slice m2.dA m2.ds.length m2.dc],.slice m2.oA m2.os.length m2.oc,.slice m2.xA m2.xs.length m2.xc])) (by simp [results,results50,go_sem,z0,z1,z2]) rfl ?_
    exact HE1.out
  ·have e1i:(nl.length:Int)=0:=by omega
   have e2i:¬ (m2.ls.length:Int)=0:=by omega
   have k1:=jA st2.at_.blk 1
   have hpp:xO ns cs bs ls ds (r1,r2,r3,r4,r5,r6) t=m2.p:=by rw [HRB.out,e1,decide_eq_false e2];rfl
   have HPP:=fA hpp
   clear hpp
   go_wp2
   have hpp:=HPP.out
   clear k1
   have ST:=fA (st12)
   have HE1:=fA (HE.out m2 w9 ST.out (hpp) (⟨ok2.ls,by have:=ok2.ds;have:=HSL.out;omega,by have:=ok2.os;have:=HSL.out;omega,by have:=ok2.xs;have:=HSL.out;omega⟩))
   clear hpp
   have gDD:=ST.out.at_.blk
   have gRR:=ST.out.chg.keep HG.out.1 HG.out.2.2.1
   have p0:w9.cell? ⟨w3.heap.size,0,none⟩=yA (.slice bB bs.length bd):=by rw [<- hcbv];exact jA gDD 0
   have p1:=jA gDD 1
   have p2:=jA gDD 2
   have p15:=jA gDD 15
   have p16:=jA gDD 16
   have hS11:(fun V:uA=>V.cell? ⟨w3.heap.size,0,none⟩=yA (.slice bB bs.length bd)/\V.cell? ⟨w3.heap.size,1,none⟩=yA (.slice m2.lA m2.ls.length m2.lc)/\V.cell? ⟨w3.heap.size,2,none⟩=yA (.slice m2.dA m2.ds.length m2.dc)/\V.cell? ⟨w3.heap.size,15,none⟩=yA (.slice m2.oA m2.os.length m2.oc)/\V.cell? ⟨w3.heap.size,16,none⟩=yA (.slice m2.xA m2.xs.length m2.xc)) w9.drew:=⟨p0,p1,p2,p15,p16⟩
   have hRD:=HG.out.2.1
   have gDF:=iB (pC (pC (pC (F:=w3.heap.size) gDD (Ne.symm hRD) (i:=0) (.slice bB bs.length bd)) (Ne.symm hRD) (i:=1) (.slice m2.lA m2.ls.length m2.lc)) (Ne.symm hRD) (i:=2) (.slice m2.dA m2.ds.length m2.dc))
   have HS12:=fA (show (fun V:uA=>V.cell? ⟨w3.heap.size,0,none⟩=yA (.slice bB bs.length bd)/\V.cell? ⟨w3.heap.size,1,none⟩=yA (.slice m2.lA m2.ls.length m2.lc)/\V.cell? ⟨w3.heap.size,2,none⟩=yA (.slice m2.dA m2.ds.length m2.dc)/\V.cell? ⟨w3.heap.size,15,none⟩=yA (.slice m2.oA m2.os.length m2.oc)/\V.cell? ⟨w3.heap.size,16,none⟩=yA (.slice m2.xA m2.xs.length m2.xc)) ((((w9.setCell ⟨w.heap.size+3,0,none⟩ (.slice bB bs.length bd)).setCell ⟨w.heap.size+3,1,none⟩ (.slice m2.lA m2.ls.length m2.lc)).setCell ⟨w.heap.size+3,2,none⟩ (.slice m2.dA m2.ds.length m2.dc)).drew) from ⟨(jA gDF 0).trans (congrArg yA hcbv),jA gDF 1,jA gDF 2,jA gDF 15,jA gDF 16⟩)
   have r0:=jA gRR 0
   have r1:=jA gRR 1
   have r2:=jA gRR 2
   have s0:=qB gRR 0
   have s1:=qB gRR 1
   have s2:=qB gRR 2
   have hRF:=xI gRR (.slice bB bs.length bd) (.slice m2.lA m2.ls.length m2.lc) (.slice m2.dA m2.ds.length m2.dc)
   have HRF2:=fA (iB hRF)
   clear gDD gRR gDF hRD hRF p0 p1 p2 p15 p16
   refine iC (S:=fun V:uA=>V.cell? ⟨w3.heap.size,0,none⟩=yA (.slice bB bs.length bd)/\V.cell? ⟨w3.heap.size,1,none⟩=yA (.slice m2.lA m2.ls.length m2.lc)/\V.cell? ⟨w3.heap.size,2,none⟩=yA (.slice m2.dA m2.ds.length m2.dc)/\V.cell? ⟨w3.heap.size,15,none⟩=yA (.slice m2.oA m2.os.length m2.oc)/\V.cell? ⟨w3.heap.size,16,none⟩=yA (.slice m2.xA m2.xs.length m2.xc)) [14] hS11 fun hH => ?_
   refine gU [0,1,2,103,4,5,6,107,8,9,10,111] ?_
   refine oU 12 fun K hK => ?_
   go_simp
   refine hK.out _ _ (HS12.out) fun hH => ?_
   clear hK K
   refine gU [13] ?_
   refine tU 14 fun K hK => ?_
   go_simp
   refine hK.out _ _ ?_
   clear hK K
   refine gU [300] ?_
   clear hH r0 r1 r2 s0 s1 s2 hS11
   have z0:=jA HRF2.out 0
   have z1:=jA HRF2.out 1
   have z2:=jA HRF2.out 2
   generalize ((((w9.setCell ⟨w.heap.size+3,0,none⟩ (.slice bB bs.length bd)).setCell ⟨w.heap.size+3,1,none⟩ (.slice m2.lA m2.ls.length m2.lc)).setCell ⟨w.heap.size+3,2,none⟩ (.slice m2.dA m2.ds.length m2.dc)).drew)=WF at *
   go_wp2
   refine fE (v:=(.tuple #[.agg #[.slice bB bs.length bd,.slice m2.lA m2.ls.length m2.lc,.slice m2.dA m2.ds.length m2.dc],.slice m2.oA m2.os.length m2.oc,.slice m2.xA m2.xs.length m2.xc])) (by simp [results,results50,go_sem,z0,z1,z2]) rfl ?_
   exact HE1.out
 ·have e1i:¬ (nl.length:Int)=0:=by omega
  have hpp:xO ns cs bs ls ds (r1,r2,r3,r4,r5,r6) t=m2.p:=by rw [HRB.out,decide_eq_false e1];rfl
  have HPP:=fA hpp
  clear hpp
  go_wp2
  have hpp:=HPP.out
  have ST:=fA (st12)
  have HE1:=fA (HE.out m2 w9 ST.out (hpp) (⟨ok2.ls,by have:=ok2.ds;have:=HSL.out;omega,by have:=ok2.os;have:=HSL.out;omega,by have:=ok2.xs;have:=HSL.out;omega⟩))
  clear hpp
  have gDD:=ST.out.at_.blk
  have gRR:=ST.out.chg.keep HG.out.1 HG.out.2.2.1
  have p0:w9.cell? ⟨w3.heap.size,0,none⟩=yA (.slice bB bs.length bd):=by rw [<- hcbv];exact jA gDD 0
  have p1:=jA gDD 1
  have p2:=jA gDD 2
  have p15:=jA gDD 15
  have p16:=jA gDD 16
  have hS11:(fun V:uA=>V.cell? ⟨w3.heap.size,0,none⟩=yA (.slice bB bs.length bd)/\V.cell? ⟨w3.heap.size,1,none⟩=yA (.slice m2.lA m2.ls.length m2.lc)/\V.cell? ⟨w3.heap.size,2,none⟩=yA (.slice m2.dA m2.ds.length m2.dc)/\V.cell? ⟨w3.heap.size,15,none⟩=yA (.slice m2.oA m2.os.length m2.oc)/\V.cell? ⟨w3.heap.size,16,none⟩=yA (.slice m2.xA m2.xs.length m2.xc)) w9.drew:=⟨p0,p1,p2,p15,p16⟩
  have hRD:=HG.out.2.1
  have gDF:=iB (pC (pC (pC (F:=w3.heap.size) gDD (Ne.symm hRD) (i:=0) (.slice bB bs.length bd)) (Ne.symm hRD) (i:=1) (.slice m2.lA m2.ls.length m2.lc)) (Ne.symm hRD) (i:=2) (.slice m2.dA m2.ds.length m2.dc))
  have HS12:=fA (show (fun V:uA=>V.cell? ⟨w3.heap.size,0,none⟩=yA (.slice bB bs.length bd)/\V.cell? ⟨w3.heap.size,1,none⟩=yA (.slice m2.lA m2.ls.length m2.lc)/\V.cell? ⟨w3.heap.size,2,none⟩=yA (.slice m2.dA m2.ds.length m2.dc)/\V.cell? ⟨w3.heap.size,15,none⟩=yA (.slice m2.oA m2.os.length m2.oc)/\V.cell? ⟨w3.heap.size,16,none⟩=yA (.slice m2.xA m2.xs.length m2.xc)) ((((w9.setCell ⟨w.heap.size+3,0,none⟩ (.slice bB bs.length bd)).setCell ⟨w.heap.size+3,1,none⟩ (.slice m2.lA m2.ls.length m2.lc)).setCell ⟨w.heap.size+3,2,none⟩ (.slice m2.dA m2.ds.length m2.dc)).drew) from ⟨(jA gDF 0).trans (congrArg yA hcbv),jA gDF 1,jA gDF 2,jA gDF 15,jA gDF 16⟩)
  have r0:=jA gRR 0
  have r1:=jA gRR 1
  have r2:=jA gRR 2
  have s0:=qB gRR 0
  have s1:=qB gRR 1
  have s2:=qB gRR 2
  have hRF:=xI gRR (.slice bB bs.length bd) (.slice m2.lA m2.ls.length m2.lc) (.slice m2.dA m2.ds.length m2.dc)
  have HRF2:=fA (iB hRF)
  clear gDD gRR gDF hRD hRF p0 p1 p2 p15 p16
  refine iC (S:=fun V:uA=>V.cell? ⟨w3.heap.size,0,none⟩=yA (.slice bB bs.length bd)/\V.cell? ⟨w3.heap.size,1,none⟩=yA (.slice m2.lA m2.ls.length m2.lc)/\V.cell? ⟨w3.heap.size,2,none⟩=yA (.slice m2.dA m2.ds.length m2.dc)/\V.cell? ⟨w3.heap.size,15,none⟩=yA (.slice m2.oA m2.os.length m2.oc)/\V.cell? ⟨w3.heap.size,16,none⟩=yA (.slice m2.xA m2.xs.length m2.xc)) [14] hS11 fun hH => ?_
  refine gU [0,1,2,103,4,5,6,107,8,9,10,111] ?_
  refine oU 12 fun K hK => ?_
  go_simp
  refine hK.out _ _ (HS12.out) fun hH => ?_
  clear hK K
  refine gU [13] ?_
  refine tU 14 fun K hK => ?_
  go_simp
  refine hK.out _ _ ?_
  clear hK K
  refine gU [300] ?_
  clear hH r0 r1 r2 s0 s1 s2 hS11
  have z0:=jA HRF2.out 0
  have z1:=jA HRF2.out 1
  have z2:=jA HRF2.out 2
  generalize ((((w9.setCell ⟨w.heap.size+3,0,none⟩ (.slice bB bs.length bd)).setCell ⟨w.heap.size+3,1,none⟩ (.slice m2.lA m2.ls.length m2.lc)).setCell ⟨w.heap.size+3,2,none⟩ (.slice m2.dA m2.ds.length m2.dc)).drew)=WF at *
  go_wp2
  refine fE (v:=(.tuple #[.agg #[.slice bB bs.length bd,.slice m2.lA m2.ls.length m2.lc,.slice m2.dA m2.ds.length m2.dc],.slice m2.oA m2.os.length m2.oc,.slice m2.xA m2.xs.length m2.xc])) (by simp [results,results50,go_sem,z0,z1,z2]) rfl ?_
  exact HE1.out
end Go.Proofs.YtogbpifcmhafkaaGreat
