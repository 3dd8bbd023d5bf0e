/-
 Part PP of the proof.
-/
import Derived.Test.YtogbpifcmhafkaaGreatPJ
import Derived.Test.YtogbpifcmhafkaaGreatPH
import Derived.Test.YtogbpifcmhafkaaGreatPK
open Go renaming Addr->mB,Calls->iA,World->uA
open Go.Lib renaming hid->fA
open Go.Proofs.Tryz renaming ntmps269->zBg
open Go.RowKit renaming Hid->jC
open Go.World renaming ownsRow_nil->nB
open List renaming getElem?_eq_getElem->rA
open Nat renaming le_refl->mA,le_trans->pA
open Option renaming some->yA
namespace Go.Proofs.YtogbpifcmhafkaaGreat
open Go.RowKit Tryz
open Go.Lib(hid)
set_option linter.unusedVariables false
set_option linter.unusedSimpArgs false
set_option maxRecDepth 100000
set_option maxHeartbeats 16000000
def zEb (xs : List Nd) (t s : Int) : List Nd × Int :=
 if kL (nfn (tD xs) t) (tD xs).length then
  if btw s 0 2=false then ([],1)
  else if ((tD xs).getD (dG (nfn (tD xs) t) 0 (tD xs).length) (0,0,0,0)).2.2.2=2\/(((tD xs).getD (dG (nfn (tD xs) t) 0 (tD xs).length) (0,0,0,0)).2.2.2=0/\s=2) then ([],8)
  else ((tD xs).set (dG (nfn (tD xs) t) 0 (tD xs).length) (((tD xs).getD (dG (nfn (tD xs) t) 0 (tD xs).length) (0,0,0,0)).1,((tD xs).getD (dG (nfn (tD xs) t) 0 (tD xs).length) (0,0,0,0)).2.1,((tD xs).getD (dG (nfn (tD xs) t) 0 (tD xs).length) (0,0,0,0)).2.2.1,s),0)
 else ([],5)
theorem zPt (A : Option mB) (c : Nat) (xs : List Nd) (t s : Int) (w : uA) (h : yB qH w A c xs) : iA prog 269 #[.slice A xs.length c, t, s] w (zKV (zEb xs t s) w) := by
 have hmx:=h.max
 have hfl:=sV xs
 have HFA:jC (iA prog 313 #[.slice A xs.length c] w (mD 207 4 (tD xs).length (flat qH (tD xs)) w)):=fA (zDs A c xs w h)
 have HPL:jC (∀ W A c,yB qH W A c (tD xs) -> iA prog 314 #[.slice A (tD xs).length c,t] W fun e w'=>e=.returned (.tuple #[.int .i64 (iT (nfn (tD xs) t) (tD xs).length),.bool (kL (nfn (tD xs) t) (tD xs).length)])/\Below W.heap.size W w'):=fun W A c h=>zCG A c (tD xs) t W h
 unfold zEb
 generalize tD xs=ys at *
 clear h
 cases hB:kL (nfn ys t) ys.length with
 | false =>
  rw [hB] at HPL
  simp only [Bool.false_eq_true,if_false]
  clear hB
  go_enter func269,zBg
  go_wp2_with (first
   | (go_at_call 313;refine HFA.out.mono ?_;rintro e w1 ⟨A1,c1,rfl,own1,hb1⟩;have f1:=yB.of_own (enc:=qH) own1 (by omega))
   | (go_at_call 314;refine (HPL.out _ _ _ f1).mono ?_;rintro e w2 ⟨rfl,hb2⟩;have hw2:=hb1.trans (hb2.mono hb1.size)))
  go_ret2
  exact ⟨none,0,rfl,nB _ _ _ _,hw2⟩
 | true =>
  rw [hB] at HPL
  simp only [if_true]
  have hB2:dG (nfn ys t) 0 ys.length<ys.length:=by unfold kL at hB;simp at hB;exact hB.1
  have hi:iT (nfn ys t) ys.length=((dG (nfn ys t) 0 ys.length:Nat):Int):=rfl
  rw [hi] at HPL
  clear hB hi
  generalize dG (nfn ys t) 0 ys.length=m at *
  have hm0:(0:Int)<=(m:Int):=by omega
  have hm1:(m:Int)<(ys.length:Int):=by omega
  rw [List.getD_eq_getElem?_getD,rA hB2,Option.getD_some]
  obtain ⟨x,hx⟩:∃ x,ys[m]'hB2=x:=⟨_,rfl⟩
  rw [hx]
  obtain ⟨x1,x2,x3,x4⟩:=x
  have HX:=fA hx
  have HBT:=fA (fun W=>zAT s 0 2 W)
  have HG:jC (∀ (W:uA) A c,W.ownsRow w.heap.size 207 4 (.slice A ys.length c) ys.length (flat qH ys) -> ∃ g,A=yA ⟨g,0,none⟩/\w.heap.size<=g/\g<W.heap.size/\W.cell? ⟨g,m * 4+3,none⟩=yA (.int .i64 x4)/\W.frozen? ⟨g,m * 4+3,none⟩=false/\jC ((W.setCell ⟨g,m * 4+3,none⟩ (.int .i64 s)).ownsRow w.heap.size 207 4 (.slice A ys.length c) ys.length (flat qH (ys.set m (x1,x2,x3,s))))):=fA fun W A c ho=>by
   obtain ⟨g,rfl⟩:∃ g,A=yA ⟨g,0,none⟩:=by
    obtain ⟨g,c',hv,_⟩:=ho.form (by omega)
    injection hv with e
    exact ⟨g,e⟩
   have hgo:=qC ho g (by simp [zB])
   exact ⟨g,rfl,hgo.1,hgo.2,mH ho (by rw [tK yO hB2 (by decide),hx];rfl),mG ho _,fA (zBi yO ho hB2 (by decide) (by rw [hx];rfl))⟩
  clear hx
  generalize btw s 0 2=bt at *
  cases bt with
  | false =>
   rw [if_pos rfl]
   go_enter func269,zBg
   go_wp2_with (first
    | (go_at_call 313;refine HFA.out.mono ?_;rintro e w1 ⟨A1,c1,rfl,own1,hb1⟩;have f1:=yB.of_own (enc:=qH) own1 (by omega))
    | (go_at_call 314;refine (HPL.out _ _ _ f1).mono ?_;rintro e w2 ⟨rfl,hb2⟩;have hw2:=hb1.trans (hb2.mono hb1.size))
    | (go_at_call 287;refine (HBT.out _).mono ?_;rintro e w3 ⟨rfl,rfl⟩))
   go_ret2
   exact ⟨none,0,rfl,nB _ _ _ _,hw2⟩
  | true =>
   rw [if_neg (by decide)]
   simp only
   by_cases h2:x4=2
   ·rw [if_pos (.inl h2)]
    subst h2
    go_enter func269,zBg
    go_wp2_with (first
     | (go_at_call 313;refine HFA.out.mono ?_;rintro e w1 ⟨A1,c1,rfl,own1,hb1⟩;have f1:=yB.of_own (enc:=qH) own1 (by omega))
     | (go_at_call 314;refine (HPL.out _ _ _ f1).mono ?_;rintro e w2 ⟨rfl,hb2⟩;have hw2:=hb1.trans (hb2.mono hb1.size);obtain ⟨g,rfl,hg1,hg2,cc,ff,HN⟩:=HG.out _ _ _ (jB own1 hb2))
     | (go_at_call 287;refine (HBT.out _).mono ?_;rintro e w3 ⟨rfl,rfl⟩))
    go_ret2
    exact ⟨none,0,rfl,nB _ _ _ _,hw2⟩
   by_cases h3:x4=0/\s=2
   ·rw [if_pos (.inr h3)]
    obtain ⟨h31,h32⟩:=h3
    subst h31 h32
    go_enter func269,zBg
    go_wp2_with (first
     | (go_at_call 313;refine HFA.out.mono ?_;rintro e w1 ⟨A1,c1,rfl,own1,hb1⟩;have f1:=yB.of_own (enc:=qH) own1 (by omega))
     | (go_at_call 314;refine (HPL.out _ _ _ f1).mono ?_;rintro e w2 ⟨rfl,hb2⟩;have hw2:=hb1.trans (hb2.mono hb1.size);obtain ⟨g,rfl,hg1,hg2,cc,ff,HN⟩:=HG.out _ _ _ (jB own1 hb2))
     | (go_at_call 287;refine (HBT.out _).mono ?_;rintro e w3 ⟨rfl,rfl⟩))
    go_ret2
    exact ⟨none,0,rfl,nB _ _ _ _,hw2⟩
   rw [if_neg (by omega)]
   have hx2:¬ (x4=2):=h2
   by_cases h4:x4=0
   ·subst h4
    have hs2:¬ (s=2):=fun h=>h3 ⟨rfl,h⟩
    clear h3
    go_enter func269,zBg
    go_wp2_with (first
     | (go_at_call 313;refine HFA.out.mono ?_;rintro e w1 ⟨A1,c1,rfl,own1,hb1⟩;have f1:=yB.of_own (enc:=qH) own1 (by omega))
     | (go_at_call 314;refine (HPL.out _ _ _ f1).mono ?_;rintro e w2 ⟨rfl,hb2⟩;have hw2:=hb1.trans (hb2.mono hb1.size);obtain ⟨g,rfl,hg1,hg2,cc,ff,HN⟩:=HG.out _ _ _ (jB own1 hb2))
     | (go_at_call 287;refine (HBT.out _).mono ?_;rintro e w3 ⟨rfl,rfl⟩))
    go_ret2
    exact ⟨yA ⟨g,0,none⟩,c1,by simp,by simpa using HN.out,hw2.setCell (p:=⟨g,m * 4+3,none⟩) hg1 _⟩
   ·clear h3
    go_enter func269,zBg
    go_wp2_with (first
     | (go_at_call 313;refine HFA.out.mono ?_;rintro e w1 ⟨A1,c1,rfl,own1,hb1⟩;have f1:=yB.of_own (enc:=qH) own1 (by omega))
     | (go_at_call 314;refine (HPL.out _ _ _ f1).mono ?_;rintro e w2 ⟨rfl,hb2⟩;have hw2:=hb1.trans (hb2.mono hb1.size);obtain ⟨g,rfl,hg1,hg2,cc,ff,HN⟩:=HG.out _ _ _ (jB own1 hb2))
     | (go_at_call 287;refine (HBT.out _).mono ?_;rintro e w3 ⟨rfl,rfl⟩))
    go_ret2
    exact ⟨yA ⟨g,0,none⟩,c1,by simp,by simpa using HN.out,hw2.setCell (p:=⟨g,m * 4+3,none⟩) hg1 _⟩
def zAp (xs:List Nd) (t:Int):Bool:=(kJ xs t).2 && decide ((kJ xs t).1.2.2.2≠2)
theorem zFj (A:Option mB) (c:Nat) (xs:List Nd) (t:Int) (w:uA) (h:yB qH w A c xs):iA prog 193 #[.slice A xs.length c,t] w fun e w'=>e=.returned (.bool (zAp xs t))/\Below w.heap.size w w':=by
 have HF:=fA (rS A c xs t w h)
 unfold zAp
 clear h
 generalize kJ xs t=r at *
 obtain ⟨⟨x1,x2,x3,x4⟩,fd⟩:=r
 simp only at HF ⊢
 cases fd with
 | false =>
  go_enter func193,ntmps193
  go_wp2_with (go_at_call 241;refine HF.out.mono ?_;rintro e w1 ⟨rfl,hb1⟩)
  go_ret
  exact ⟨rfl,hb1.alloc hb1.size _⟩
 | true =>
  go_enter func193,ntmps193
  go_wp2_with (go_at_call 241;refine HF.out.mono ?_;rintro e w1 ⟨rfl,hb1⟩)
  go_ret
  exact ⟨bC (by simp;rfl),hb1.alloc hb1.size _⟩
def zGg (xs:List Nd) (id:Int):Bool := !zAp xs id
def zIx (xs:List Nd) (c:Ch):Bool:=eU (zGg xs) c.2.2.2
theorem zMu (B:Nat) (A:Option mB) (c:Nat) (xs:List Nd) (id:Int) (w:uA) (h:yB qH w A c xs) (hB:w.cell? ⟨B,0,none⟩=yA (.slice A xs.length c)):iA prog 192 #[id,(B,0)] w fun e w'=>e=.returned (.bool (zGg xs id))/\Below w.heap.size w w':=by
 have HF:=fA (zFj A c xs id w h)
 unfold zGg
 clear h
 generalize zAp xs id=r at *
 go_enter func192,ntmps192
 go_wp2_with (go_at_call 193;refine HF.out.mono ?_;rintro e w1 ⟨rfl,hb1⟩)
 go_ret
 exact ⟨rfl,hb1⟩
theorem zMv (L B:Nat) (A:Option mB) (c:Nat) (xs:List Nd) (w:uA) (h:yB qH w A c xs) (hB:w.cell? ⟨B,0,none⟩=yA (.slice A xs.length c)) (hBl:B<w.heap.size) (hL:w.cell? ⟨L,0,none⟩=yA (.func (.func 192) #[] #[(B,0)])) (hLl:L<w.heap.size):zNp 194 #[(L,0)] (zIx xs) w:=by
 intro W x1 x2 x3 a cc x4 hb hf
 have hal:=wA W (.cells #[x1,x2,.int .u32 x3,.slice a x4.length cc] 65)
 have hwl:=hb.trans (hal.mono hb.size)
 have hLW:=((bcell hb).1 L 0 hLl).trans hL
 have hLl2:=Nat.lt_of_lt_of_le hLl hb.size
 have HP:jC (yR 192 #[.pointer (yA ⟨B,0,none⟩)] (fun x:Int=>Value.int .i64 x) (zGg xs) (W.alloc (.cells #[x1,x2,.int .u32 x3,.slice a x4.length cc] 65))):=fA fun W2 x hb2=>zMu B A c xs x W2 (h.below (hwl.trans (hb2.mono hwl.size))) (((bcell (hwl.trans (hb2.mono hwl.size))).1 B 0 hBl).trans hB)
 have HC:=fA (zMa a cc x4 192 #[.pointer (yA ⟨B,0,none⟩)] (enters_of func192 (by kernel_rfl) rfl) (zGg xs) _ (hf.below hal) HP.out)
 unfold zIx
 simp only
 generalize eU (zGg xs) x4=r at *
 clear hB hL h hf hwl
 go_enter func194,ntmps194
 go_wp2_with (go_at_call 195;refine HC.out.mono ?_;rintro e w1 ⟨rfl,hb1⟩)
 go_ret
 exact ⟨rfl,hal.trans (hb1.mono hal.size)⟩
theorem zKN (w:uA):iA prog 196 #[.slice none 0 0] w fun e w'=>e=.returned (.bool true)/\w'=w:=by
 go_enter func196,ntmps196
 go_wp2
 go_loopw [3,8] (fun v i wr=>v=.int .i64 0/\i=.int .i64 0/\wr=w) (fun _ _ _=>0)
 case atStart=>exact ⟨rfl,rfl,rfl⟩
 case round =>
  obtain ⟨rfl,rfl,rfl⟩:=hrel
  go_wp2
  go_ret
  trivial
def zCC (ns:List Nd) (cs:List Ch):Bool:=jH 0 ns && (pG cs && !eU (zIx ns) cs)
theorem zOG (A B:Option mB) (c d:Nat) (ns:List Nd) (cs:List Ch) (w:uA) (h:yB qH w A c ns) (k:vM w B d cs):iA prog 115 #[.agg #[.slice A ns.length c,.slice B cs.length d,.slice none 0 0]] w fun e w'=>e=.returned (.bool (zCC ns cs))/\Below w.heap.size w w':=by
 obtain ⟨W,hW⟩:∃ W,W=(w.alloc (.cells #[.slice A ns.length c,.slice B cs.length d,.slice none 0 0] 51)).alloc (.cells #[.func (.func 192) #[] #[.pointer (yA ⟨w.heap.size,0,none⟩)]] 42):=⟨_,rfl⟩
 have hb:Below w.heap.size w W:=by rw [hW];exact yI _ _ _
 have g1:W.heap[w.heap.size]?=yA (.cells #[.slice A ns.length c,.slice B cs.length d,.slice none 0 0] 51):=by rw [hW];exact bG _ _ _
 have g2:W.heap[w.heap.size+1]?=yA (.cells #[.func (.func 192) #[] #[.pointer (yA ⟨w.heap.size,0,none⟩)]] 42):=by rw [hW];exact sF _ _ _
 obtain ⟨m0,m1,m2,_,_,_,mlt⟩:=vH g1
 have HN:=fA (fun W' (hb':Below W.heap.size W W')=>zBB A c ns W' ((h.below hb).below hb'))
 have HC:=fA (fun W' (hb':Below W.heap.size W W')=>pZ B d cs W' ((k.below hb).below hb'))
 have HS:=fA zKN
 have HP:=fA (fun W' (hb':Below W.heap.size W W')=>zJZ B d cs 194 #[.pointer (yA ⟨w.heap.size+1,0,none⟩)] (enters_of func194 (by kernel_rfl) rfl) (zIx ns) W' ((k.below hb).below hb') (zMv (w.heap.size+1) w.heap.size A c ns W' ((h.below hb).below hb') (jA (kA hb' g1) 0) (eB (kA hb' g1)) (jA (kA hb' g2) 0) (eB (kA hb' g2))))
 have HW:=fA hW
 have G1:=fA g1
 unfold zCC
 clear h k hW g1 g2
 generalize jH 0 ns=b1 at *
 generalize pG cs=b2 at *
 generalize eU (zIx ns) cs=b3 at *
 cases b1 with
 | false =>
  go_enter func115,ntmps115
  go_wp2_with (first
   | (go_at_call 126;rw [<- HW.out];refine (HN.out _ (xC W)).mono ?_;rintro e w1 ⟨rfl,hb1⟩;have hw1:=hb.trans (hb1.mono hb.size);have e1:=kA hb1 G1.out;obtain ⟨p0,p1,p2,_,_,_,plt⟩:=vH e1)
   | (go_at_call 101;refine (HC.out _ hb1).mono ?_;rintro e w2 ⟨rfl,hb2⟩;have hb12:=hb1.trans (hb2.mono hb1.size);have hw2:=hb.trans (hb12.mono hb.size);have e2:=kA hb2 e1;obtain ⟨q0,q1,q2,_,_,_,qlt⟩:=vH e2)
   | (go_at_call 196;refine (HS.out _).mono ?_;rintro e w3 ⟨rfl,hw3⟩;subst hw3)
   | (go_at_call 197;refine (HP.out _ hb12).mono ?_;rintro e w4 ⟨rfl,hb4⟩;have hw4:=hw2.trans (hb4.mono hw2.size)))
  go_ret
  exact ⟨bC (by simp),hw1⟩
 | true =>
 cases b2 with
 | false =>
  go_enter func115,ntmps115
  go_wp2_with (first
   | (go_at_call 126;rw [<- HW.out];refine (HN.out _ (xC W)).mono ?_;rintro e w1 ⟨rfl,hb1⟩;have hw1:=hb.trans (hb1.mono hb.size);have e1:=kA hb1 G1.out;obtain ⟨p0,p1,p2,_,_,_,plt⟩:=vH e1)
   | (go_at_call 101;refine (HC.out _ hb1).mono ?_;rintro e w2 ⟨rfl,hb2⟩;have hb12:=hb1.trans (hb2.mono hb1.size);have hw2:=hb.trans (hb12.mono hb.size);have e2:=kA hb2 e1;obtain ⟨q0,q1,q2,_,_,_,qlt⟩:=vH e2)
   | (go_at_call 196;refine (HS.out _).mono ?_;rintro e w3 ⟨rfl,hw3⟩;subst hw3)
   | (go_at_call 197;refine (HP.out _ hb12).mono ?_;rintro e w4 ⟨rfl,hb4⟩;have hw4:=hw2.trans (hb4.mono hw2.size)))
  go_ret
  exact ⟨bC (by simp),hw2⟩
 | true =>
  go_enter func115,ntmps115
  go_wp2_with (first
   | (go_at_call 126;rw [<- HW.out];refine (HN.out _ (xC W)).mono ?_;rintro e w1 ⟨rfl,hb1⟩;have hw1:=hb.trans (hb1.mono hb.size);have e1:=kA hb1 G1.out;obtain ⟨p0,p1,p2,_,_,_,plt⟩:=vH e1)
   | (go_at_call 101;refine (HC.out _ hb1).mono ?_;rintro e w2 ⟨rfl,hb2⟩;have hb12:=hb1.trans (hb2.mono hb1.size);have hw2:=hb.trans (hb12.mono hb.size);have e2:=kA hb2 e1;obtain ⟨q0,q1,q2,_,_,_,qlt⟩:=vH e2)
   | (go_at_call 196;refine (HS.out _).mono ?_;rintro e w3 ⟨rfl,hw3⟩;subst hw3)
   | (go_at_call 197;refine (HP.out _ hb12).mono ?_;rintro e w4 ⟨rfl,hb4⟩;have hw4:=hw2.trans (hb4.mono hw2.size)))
  go_ret
  exact ⟨bC (by simp),hw4⟩
theorem lH.chg {S:List Nat} {w w':uA} {base:Nat} {A:Option mB} {c:Nat} {xs:List Ch} (h:lH w base A c xs) (hc:fD S w w') (hS:∀ x ∈ S,x<base):lH w' base A c xs:=by
 obtain ⟨ps,h⟩:=h
 exact ⟨ps,h.len,xE h.row hc (fun x hx hs=>by have:=(qC h.row x hx).1;have:=hS x hs;omega),fun i x a p q=>⟨xE (h.hold i x a p q).1 hc (fun y hy hs=>by have:=(qC (h.hold i x a p q).1 y hy).1;have:=hS y hs;omega),(h.hold i x a p q).2⟩,h.apart,h.main⟩
def RetMt (ns:List Nd) (cs:List Ch) (w:uA) (en:Ending) (w':uA):Prop:=∃ A c B d,en=.returned (.agg #[.slice A ns.length c,.slice B cs.length d,.slice none 0 0])/\w'.ownsRow w.heap.size 207 4 (.slice A ns.length c) ns.length (flat qH ns)/\lH w' w.heap.size B d cs/\Below w.heap.size w w'
theorem zHH (w:uA):iA prog 191 #[.slice none 0 0] w fun e w'=>e=.returned (.slice none 0 0)/\w'=w:=by
 have q:=fun (w:uA) (a:Option mB) (n c n' c':Nat)=>Lib.run_eql_slice_nil w 49 279 a n c n' c' underlying49
 go_enter func191,ntmps191
 go_wp2
 go_ret
 trivial
theorem zJI (A B : Option mB) (c d : Nat) (ns : List Nd) (cs : List Ch) (w : uA) (h : yB qH w A c ns) (k : vM w B d cs) : iA prog 114 #[.agg #[.slice A ns.length c, .slice B cs.length d, .slice none 0 0]] w (RetMt ns cs w) := by
 have hmx:=k.max
 have hmn:=h.max
 have hn0:=k.none_
 obtain ⟨W,hW⟩:∃ W,W=(w.alloc (.cells #[.slice A ns.length c,.slice B cs.length d,.slice none 0 0] 51)).alloc (.cells #[.slice none 0 0,.slice none 0 0,.slice none 0 0] 51):=⟨_,rfl⟩
 have hb:Below w.heap.size w W:=by rw [hW];exact yI _ _ _
 have g1:W.heap[w.heap.size]?=yA (.cells #[.slice A ns.length c,.slice B cs.length d,.slice none 0 0] 51):=by rw [hW];exact bG _ _ _
 have g2:W.heap[w.heap.size+1]?=yA (.cells #[.slice none 0 0,.slice none 0 0,.slice none 0 0] 51):=by rw [hW];exact sF _ _ _
 obtain ⟨ps,hpl,hrow,hhold⟩:=k
 have hcl:=vJ hpl
 have HN:jC (∀ W,Below w.heap.size w W -> iA prog 190 #[.slice A ns.length c] W (mD 207 4 ns.length (flat qH ns) W)):=fA fun W hb=>zEd A c ns.length (flat qH ns) W (h.row.below hb) h.none_ (jD yO ns) (jF zCD ns) h.max
 have HC:jC (∀ W,Below w.heap.size w W -> iA prog 143 #[.slice B cs.length d] W (mD 65 4 cs.length (flat zDJ (bF cs ps)) W)):=fA fun W hb=>zGT B d cs.length (flat zDJ (bF cs ps)) W (hrow.row.below hb) hn0 (by rw [jD jU,hcl]) (jF zEv _) hmx
 have HH:jC (∀ (i:Nat) (x:Ch) (a:Option mB × Nat),cs[i]?=yA x -> ps[i]?=yA a -> ∀ W,Below w.heap.size w W -> iA prog 121 #[.slice a.1 x.2.2.2.length a.2] W (mD 3 1 x.2.2.2.length (flat kG x.2.2.2) W)/\x.2.2.2.length<=1000000):=fA fun i x a p q W hb=>by
  have f:=(hhold i x a p q).below hb
  exact ⟨jT a.1 a.2 x.2.2.2.length (flat kG x.2.2.2) W f.row f.none_ (jD dN _) (jF cV _) f.max,f.max⟩
 have HP:=fA hpl
 have HW:=fA hW
 obtain ⟨m0,m1,m2,mf0,mf1,mf2,mlt⟩:=vH g1
 clear h hrow hhold hn0 hpl hW
 go_enter func114,ntmps114
 go_wp2_with fail
 rw [<- HW.out]
 have G1:=fA g1
 have G2:=fA g2
 clear g1 g2
 have hsW:w.heap.size+1<W.heap.size:=eB G2.out
 go_cut [] (fun wx=>∃ A2 c2 A3 c3,jC (wx.heap[w.heap.size]?=yA (.cells #[.slice A2 ns.length c2,.slice A3 cs.length c3,.slice none 0 0] 51))/\jC (wx.ownsRow W.heap.size 207 4 (.slice A2 ns.length c2) ns.length (flat qH ns))/\jC (wx.ownsRow W.heap.size 65 4 (.slice A3 cs.length c3) cs.length (flat zDJ (bF cs ps)))/\jC (wx.heap[w.heap.size+1]?=yA (.cells #[.slice none 0 0,.slice none 0 0,.slice none 0 0] 51))/\jC (∀ x ∈ zB A2,x ∉ zB A3)/\Below w.heap.size w wx/\W.heap.size<=wx.heap.size)
 case first =>
  go_region_law (first
   | (go_simp;go_at_call 190;refine (HN.out _ hb.drew).mono ?_;rintro e w2 ⟨A2,c2,rfl,own2,hb2⟩;have hw2:=hb.drew.trans (hb2.mono hb.size);have e2:=kA hb2 (iB G1.out);have i2:=fA (kA hb2 (iB G2.out));obtain ⟨n0,n1,n2,nf0,nf1,nf2,nlt⟩:=vH e2;have HO2:jC (w2.ownsRow W.heap.size 207 4 (.slice A2 ns.length c2) ns.length (flat qH ns)):=fA own2;have hs2:W.heap.size<=w2.heap.size:=hb2.size;clear own2;(try go_simp))
   | (go_simp;go_at_call 143;refine (HC.out _ hw2).mono ?_;rintro e w3 ⟨A3,c3,rfl,own3,hb3⟩;have hw3:=hw2.trans (hb3.mono hw2.size);have e3:=kA hb3 e2;have i3:=fA (kA hb3 i2.out);obtain ⟨p0,p1,p2,pf0,pf1,pf2,plt⟩:=vH e3;have HO3:=fA own3;have HO23:=fA (jB HO2.out hb3);have hs3:W.heap.size<=w3.heap.size:=pA hs2 hb3.size;have HAP:jC (∀ x ∈ zB A2,x ∉ zB A3):=(fA fun x hx hx3=>by have:=(qC HO2.out x hx).2;have:=(qC HO3.out x hx3).1;omega);have E3:=fA (xI e3 (.slice A2 ns.length c2) (.slice A3 cs.length c3) (.slice none 0 0));have I3:=fA (kT i3.out (show w.heap.size+1≠w.heap.size by omega) (.slice A2 ns.length c2) (.slice A3 cs.length c3) (.slice none 0 0));clear own3;(try go_simp))
   | (go_simp;go_at_call 191;refine (zHH _).mono ?_;rintro e w4 ⟨rfl,hw4⟩;subst hw4;(try go_simp)))
  all_goals (go_wp2_with fail;go_meet)
  all_goals exact ⟨_,_,_,_,E3,fA (bR HO23.out (by omega) _ _ _),fA (bR (oC HO3.out hs2) (by omega) _ _ _),I3,HAP,rH hw3 (mA _) _ _ _,by simpa using hs3⟩
 case rest =>
  obtain ⟨A2,c2,A3,c3,E,O2,O3,I,AP,hwc,hsc⟩:=‹∃ A2 c2 A3 c3,_/\_›
  obtain ⟨x0,x1,x2,_,_,_,xlt⟩:=vH E.out
  clear m0 m1 m2 mf0 mf1 mf2 mlt
  go_wp2_with fail
  go_loopw [3,4,20] (fun v3 v4 i wr=>∃ (k:Nat) (qs:List (Option mB × Nat)),k<=cs.length/\i=.int .i64 (k:Int)/\jC (kM wr W.heap.size A3 c3 cs.length (bF cs ps) (cs.take k) qs)/\jC (wr.heap[w.heap.size]?=(yA (.cells #[.slice A2 ns.length c2,.slice A3 cs.length c3,.slice none 0 0] 51)))/\jC (wr.heap[w.heap.size+1]?=(yA (.cells #[.slice none 0 0,.slice none 0 0,.slice none 0 0] 51)))/\jC (wr.ownsRow W.heap.size 207 4 (.slice A2 ns.length c2) ns.length (flat qH ns))/\Below w.heap.size w wr/\W.heap.size<=wr.heap.size) (fun _ _ i _=>cs.length - (intOf i).toNat)
  case atStart=>exact ⟨0,[],by omega,rfl,fA (kM.start O3.out hcl),E,I,O2,hwc,hsc⟩
  case round =>
   clear hwc hsc E I O2 O3 x0 x1 x2 xlt
   obtain ⟨k,qs,hk,rfl,HX,E,I,O2,hw,hsw⟩:=hrel
   have hk0:(0:Int)<=(k:Int):=by omega
   obtain ⟨x0,x1,x2,_,_,_,xlt⟩:=vH E.out
   by_cases hlt:k<cs.length
   ·have hk1:(k:Int)<(cs.length:Int):=by omega
    have hlp:k<ps.length:=by rw [HP.out];exact hlt
    have hkt:(cs.take k).length=k:=by rw [List.length_take];omega
    have hco:k<(bF cs ps).length:=by omega
    have hat:=fS hlt hlp hco
    have hCE:=HX.out.cells (by omega)
    simp only [hkt,hat] at hCE
    obtain ⟨g,hAg,hbg,hgl,c0,c1,c2',c3',f3⟩:=hCE
    subst hAg
    have HHk:=HH.out k _ _ (rA hlt) (rA hlp)
    have hxt:cs.take (k+1)=cs.take k ++ [cs[k]'hlt]:=List.take_succ_eq_append_getElem hlt
    generalize (ps[k]'hlp)=a at *
    generalize (cs[k]'hlt)=x at *
    obtain ⟨x1',x2',x3',x4'⟩:=x
    obtain ⟨a1,a2⟩:=a
    simp only [zAY] at c0 c1 c2' c3' HHk hat
    have HST:jC (∀ (W1:uA) (a:Option mB) (cc:Nat),Below wr.heap.size wr W1 -> W1.ownsRow wr.heap.size 3 1 (.slice a x4'.length cc) x4'.length (flat kG x4') -> kM (W1.setCell ⟨g,k * 4+3,none⟩ (.slice a x4'.length cc)) W.heap.size (yA ⟨g,0,none⟩) c3 cs.length (bF cs ps) (cs.take (k+1)) (qs ++ [(a,cc)])):=fA fun W1 a cc hb ho=>by
     have:=HX.out.step (W1:=W1) (a:=a) (cc:=cc) (hs:=x4') (y:=(x1',x2',x3',x4')) (by omega) hb (mA _) hsw ho (HHk wr hw).2 (by simp only [hkt,hat]) (by simp only [hkt,hat]) (by simp only [hkt,hat]) rfl
     rw [hkt,<- hxt] at this
     exact this
    have HCL:jC (∀ W,Below w.heap.size w W -> iA prog 121 #[.slice a1 x4'.length a2] W (mD 3 1 x4'.length (flat kG x4') W)):=fA fun W hb=>(HHk W hb).1
    have HFAR:jC (∀ (W1:uA),Below wr.heap.size wr W1 -> ∀ v,((W1.setCell ⟨g,k * 4+3,none⟩ v).heap[w.heap.size]?=(yA (.cells #[.slice A2 ns.length c2,.slice (yA ⟨g,0,none⟩) cs.length c3,.slice none 0 0] 51)))/\((W1.setCell ⟨g,k * 4+3,none⟩ v).heap[w.heap.size+1]?=(yA (.cells #[.slice none 0 0,.slice none 0 0,.slice none 0 0] 51)))/\((W1.setCell ⟨g,k * 4+3,none⟩ v).ownsRow W.heap.size 207 4 (.slice A2 ns.length c2) ns.length (flat qH ns))):=fA fun W1 hb1 v=>⟨pC (kA hb1 E.out) (by omega) v,pC (kA hb1 I.out) (by omega) v,rE (jB O2.out hb1) (fun z hz hc=>AP.out z hz (by subst hc;simp [zB])) _ v⟩
    clear HHk hxt hat
    have hgM:g≠w.heap.size:=by omega
    have hal:=wA wr (.cells #[x1',x2',.int .u32 x3',.slice a1 x4'.length a2] 65)
    have gX:=rB wr (.cells #[x1',x2',.int .u32 x3',.slice a1 x4'.length a2] 65)
    have hw0:=hw.trans (hal.mono hw.size)
    have y1:=((bcell hal).1 w.heap.size 1 xlt).trans x1
    go_wp2_with fail
    go_region_law (go_simp;go_at_call 121;refine (HCL.out _ hw0.drew).mono ?_;rintro e w3 ⟨A3',cc3,rfl,own3,hb3⟩;have hb30:=hal.drew.trans (hb3.mono hal.size);have hw3:=hw.trans (hb30.mono hw.size);have HO3:=fA (oC own3 hal.size);clear own3;have m3:=((bcell hb30).1 g (k * 4+3) hgl).trans c3';have n3:=((bcell hb30).2 g (k * 4+3) hgl).trans f3;have z1:=((bcell hb30).1 w.heap.size 1 xlt).trans x1;(try go_simp))
    all_goals (
     have HN:=HST.out w3 A3' cc3 hb30 HO3.out
     obtain ⟨q1,q2,q3⟩:=HFAR.out w3 hb30 (.slice A3' x4'.length cc3)
     have Q1:=fA q1
     have Q2:=fA q2
     have Q3:=fA q3
     have hs3:=pA hsw hb30.size
     clear q1 q2 q3
     go_wp2
     go_roundw
     case rel=>exact ⟨k+1,_,by omega,by go_num,fA HN,Q1,Q2,Q3,hw3.setCell (p:=⟨g,k * 4+3,none⟩) (by show w.heap.size<=g;omega) _,by simpa using hs3⟩
     case measure=>simp [intOf];omega)
   have hk1:¬ (k:Int)<(cs.length:Int):=by omega
   have hke:k=cs.length:=by omega
   subst hke
   have hOwn:=HX.out.done (by simp)
   rw [List.take_of_length_le (mA _)] at hOwn
   have HOW:=fA hOwn
   obtain ⟨i0,i1,i2,if0,if1,if2,ilt⟩:=vH I.out
   clear hOwn
   go_wp2
   obtain ⟨z0,z1,z2,_,_,_,_⟩:=vH (xI I.out (.slice A2 ns.length c2) (.slice A3 cs.length c3) (.slice none 0 0))
   refine bodyPost_ret (v:=.agg #[.slice A2 ns.length c2,.slice A3 cs.length c3,.slice none 0 0]) (by simp [results,results114,go_sem,z0,z1,z2];try rfl) rfl ?_
   exact ⟨A2,c2,A3,c3,rfl,oC (bR O2.out (by omega) _ _ _) hb.size,(HOW.out.chg (S:=[w.heap.size+1]) ((((fD.refl _ wr).setCell (.inl (by simp)) 0 _).setCell (.inl (by simp)) 1 _).setCell (.inl (by simp)) 2 _) (fun x hx=>by simp at hx;omega)).rebase hb.size,rH hw (by omega) _ _ _⟩
end Go.Proofs.YtogbpifcmhafkaaGreat
