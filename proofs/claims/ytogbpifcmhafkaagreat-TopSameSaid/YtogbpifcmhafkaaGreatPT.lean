/-
 Part PT of the proof.
-/
import Derived.Test.YtogbpifcmhafkaaGreatPO
import Derived.Test.YtogbpifcmhafkaaGreatPK
open Go renaming Addr->mB,Calls->iA,World->uA
open Go.Lib renaming hid->fA
open Go.Proofs.Tryz renaming func214->cU,ntmps214->fR
open Go.RowKit renaming Hid->jC
open Go.World renaming ownsRow_nil->nB
open List renaming getD_eq_getElem?_getD->pB,getElem?_eq_getElem->rA
open Nat renaming le_refl->mA,le_trans->pA
open Option renaming some->yA
namespace Go.Proofs.YtogbpifcmhafkaaGreat
open Go.RowKit Tryz
open Go.Lib(hid)
set_option linter.unusedVariables false
set_option linter.unusedSimpArgs false
set_option maxRecDepth 100000
set_option maxHeartbeats 16000000
def zJh (x:Rp):Rp:=(x.1,x.2.1,x.2.2.1,false,x.2.2.2.2)
def zM (xs : List Rp) (t v : Int) : List Rp × Int :=
 if kL (rfn (rD xs) (t,0,0,true,false)) (rD xs).length then
  if ((rD xs).getD (dG (rfn (rD xs) (t,0,0,true,false)) 0 (rD xs).length) zRp).2.1=v then
   (zDd ((rD xs).take (dG (rfn (rD xs) (t,0,0,true,false)) 0 (rD xs).length) ++ (rD xs).drop (dG (rfn (rD xs) (t,0,0,true,false)) 0 (rD xs).length+1)) (zJh ((rD xs).getD (dG (rfn (rD xs) (t,0,0,true,false)) 0 (rD xs).length) zRp)),0)
  else ([],5)
 else ([],5)
theorem zHN (A : Option mB) (c : Nat) (xs : List Rp) (t v : Int) (w : uA) (h : yB fJ w A c xs) : iA prog 215 #[.slice A xs.length c, t, v] w (zDm (zM xs t v) w) := by
 have hmx:=h.max
 have hfl:=jL xs
 have HFA:jC (iA prog 260 #[.slice A xs.length c] w (mD 124 5 (rD xs).length (flat fJ (rD xs)) w)):=fA (zBx A c xs w h)
 have HFI:jC (∀ (W':uA) (A:Option mB) (c:Nat),yB fJ W' A c (rD xs) -> iA prog 259 #[.slice A (rD xs).length c,t,.bool true] W' fun e w'=>e=.returned (.tuple #[.int .i64 (iT (rfn (rD xs) (t,0,0,true,false)) (rD xs).length),.bool (kL (rfn (rD xs) (t,0,0,true,false)) (rD xs).length)])/\Below W'.heap.size W' w'):=fA fun W' A c h=>zBy A c (rD xs) t true W' h
 unfold zM
 clear h
 generalize rD xs=ys at *
 cases hB:kL (rfn ys (t,0,0,true,false)) ys.length with
 | false =>
  rw [hB] at HFI
  rw [if_neg (by decide)]
  clear hB
  go_enter func215,ntmps215
  go_wp2_with (first
   | (go_at_call 260;refine HFA.out.mono ?_;rintro e w1 ⟨A1,c1,rfl,own1,hb1⟩;have f1:=yB.of_own (enc:=fJ) own1 (by omega))
   | (go_at_call 259;refine (HFI.out _ _ _ f1).mono ?_;rintro e w2 ⟨rfl,hb2⟩;have hw2:=hb1.trans (hb2.mono hb1.size)))
  go_ret2
  exact ⟨none,0,rfl,nB _ _ _ _,hw2⟩
 | true =>
  rw [hB] at HFI
  rw [if_pos rfl]
  have hB2:dG (rfn ys (t,0,0,true,false)) 0 ys.length<ys.length:=by unfold kL at hB;simp at hB;exact hB.1
  have hi:iT (rfn ys (t,0,0,true,false)) ys.length=((dG (rfn ys (t,0,0,true,false)) 0 ys.length:Nat):Int):=rfl
  rw [hi] at HFI
  clear hB hi
  generalize dG (rfn ys (t,0,0,true,false)) 0 ys.length=m at *
  have hm0:(0:Int)<=(m:Int):=by omega
  have hm1:(m:Int)<(ys.length:Int):=by omega
  rw [pB,rA hB2,Option.getD_some]
  obtain ⟨x,hx⟩:∃ x,ys[m]'hB2=x:=⟨_,rfl⟩
  rw [hx]
  obtain ⟨x1,x2,x3,x4,x5⟩:=x
  have HG:jC (∀ (W:uA) A c,W.ownsRow w.heap.size 124 5 (.slice A ys.length c) ys.length (flat fJ ys) -> ∃ g,A=yA ⟨g,0,none⟩/\w.heap.size<=g/\g<W.heap.size/\W.cell? ⟨g,m * 5,none⟩=yA (.int .i64 x1)/\W.cell? ⟨g,m * 5+1,none⟩=yA (.int .i64 x2)/\W.cell? ⟨g,m * 5+2,none⟩=yA (.int .u32 x3)/\W.cell? ⟨g,m * 5+3,none⟩=yA (.bool x4)/\W.cell? ⟨g,m * 5+4,none⟩=yA (.bool x5)):=fA fun W A c ho=>by
   obtain ⟨g,rfl⟩:∃ g,A=yA ⟨g,0,none⟩:=by
    obtain ⟨g,c',hv,_⟩:=ho.form (by omega)
    injection hv with e
    exact ⟨g,e⟩
   have hgo:=qC ho g (by simp [zB])
   have q:∀ j u,j<5 -> (fJ (ys[m]'hB2))[j]?=yA u -> W.cell? ⟨g,m * 5+j,none⟩=yA u:=fun j u hj hu=>mH ho (by rw [tK iO hB2 hj];exact hu)
   rw [hx] at q
   exact ⟨g,rfl,hgo.1,hgo.2,q 0 _ (by decide) rfl,q 1 _ (by decide) rfl,q 2 _ (by decide) rfl,q 3 _ (by decide) rfl,q 4 _ (by decide) rfl⟩
  clear hx
  simp only
  by_cases hv:x2=v
  rotate_left 1
  ·rw [if_neg hv]
   go_enter func215,ntmps215
   go_wp2_with (first
    | (go_at_call 260;refine HFA.out.mono ?_;rintro e w1 ⟨A1,c1,rfl,own1,hb1⟩;have f1:=yB.of_own (enc:=fJ) own1 (by omega))
    | (go_at_call 259;refine (HFI.out _ _ _ f1).mono ?_;rintro e w2 ⟨rfl,hb2⟩;have hw2:=hb1.trans (hb2.mono hb1.size);obtain ⟨g,rfl,hg1,hg2,d0,d1,d2,d3,d4⟩:=HG.out _ _ _ (jB own1 hb2)))
   go_ret2
   exact ⟨none,0,rfl,nB _ _ _ _,hw2⟩
  ·rw [if_pos hv]
   subst hv
   have hzt:zJh (x1,x2,x3,x4,x5)=(x1,x2,x3,false,x5):=rfl
   rw [hzt]
   clear hzt
   have hlen:(ys.take m ++ ys.drop (m+1)).length=ys.length - 1:=by simp;omega
   have hfe:flat fJ (ys.take m ++ ys.drop (m+1))=(flat fJ ys).take (m * 5) ++ (flat fJ ys).drop ((m+1) * 5):=by
    rw [uD,mL iO,wM iO]
   have HDE:jC (∀ (W:uA) (g c:Nat),W.ownsRow w.heap.size 124 5 (.slice (yA ⟨g,0,none⟩) ys.length c) ys.length (flat fJ ys) -> iA prog 290 #[.slice (yA ⟨g,0,none⟩) ys.length c,(m:Int),.int .i64 ((m:Int)+1)] W fun e w'=>e=.returned (.slice (yA ⟨g,0,none⟩) (ys.length - 1) c)/\w'.ownsRow w.heap.size 124 5 (.slice (yA ⟨g,0,none⟩) (ys.length - 1) c) (ys.length - 1) (flat fJ (ys.take m ++ ys.drop (m+1)))/\fD [g] W w'):=fA fun W g c ho=>by
    have hgo:=qC ho g (by simp [zB])
    refine (zNT g c ys.length m (flat fJ ys) W (mQ ho (fun x hx=>by simp [zB] at hx;omega)) (jF zHl _) hB2 (by omega)).mono ?_
    rintro e w' ⟨rfl,h1,h2⟩
    exact ⟨rfl,by rw [hfe];exact oC h1 hgo.1,h2⟩
   have HPU:jC (∀ (W:uA) (A:Option mB) (c:Nat),w.heap.size<=W.heap.size -> W.ownsRow w.heap.size 124 5 (.slice A (ys.length - 1) c) (ys.length - 1) (flat fJ (ys.take m ++ ys.drop (m+1))) -> iA prog 289 #[.slice A (ys.length - 1) c,.agg #[x1,x2,.int .u32 x3,.bool false,.bool x5]] W (zRo fJ w.heap.size 124 5 (zDd (ys.take m ++ ys.drop (m+1)) (x1,x2,x3,false,x5)) W)):=fA fun W A c hs ho=>by
    rw [<- hlen] at ho ⊢
    exact zIF w.heap.size c A _ x1 x2 x3 false x5 W hs ho (by omega)
   clear hlen hfe
   generalize zDd (ys.take m ++ ys.drop (m+1)) (x1,x2,x3,false,x5)=zs at *
   go_enter func215,ntmps215
   go_wp2_with (first
    | (go_at_call 260;refine HFA.out.mono ?_;rintro e w1 ⟨A1,c1,rfl,own1,hb1⟩;have f1:=yB.of_own (enc:=fJ) own1 (by omega))
    | (go_at_call 259;refine (HFI.out _ _ _ f1).mono ?_;rintro e w2 ⟨rfl,hb2⟩;have hw2:=hb1.trans (hb2.mono hb1.size);obtain ⟨g,rfl,hg1,hg2,d0,d1,d2,d3,d4⟩:=HG.out _ _ _ (jB own1 hb2);have HO2:=fA (jB own1 hb2);clear own1 f1))
   obtain ⟨W5,hW5⟩:∃ W5,W5=w2.alloc (.cells #[x1,x2,.int .u32 x3,.bool false,.bool x5] 124):=⟨_,rfl⟩
   have hb5:Below w2.heap.size w2 W5:=by rw [hW5];exact wA _ _
   have g5:W5.heap[w2.heap.size]?=yA (.cells #[x1,x2,.int .u32 x3,.bool false,.bool x5] 124):=by rw [hW5];exact rB _ _
   have HW5:=fA hW5
   have HO5:=fA (jB HO2.out hb5)
   have hw5:=hw2.trans (hb5.mono hw2.size)
   have G5:=fA g5
   obtain ⟨k0,k1,k2,k3,k4,_,_,_,_,_,klt⟩:=yG g5
   have hgn:g≠w2.heap.size:=by omega
   clear hW5 g5 d0 d1 d2 d3 d4
   have hwm:IntKind.i64.wrap ((m:Int)+1)=(m:Int)+1:=oH (by omega) (by omega)
   go_wp2_with fail
   rw [<- HW5.out]
   clear HW5
   go_region_law (first
    | (go_simp;go_at_call 290;(with_reducible refine (HDE.out W5.drew g c1 (sI HO5.out)).mono ?_);rintro e w6 ⟨rfl,own6,ch6⟩;have HO6:=fA own6;have g6:=ch6.keep (iB G5.out) (by simp;omega);obtain ⟨l0,l1,l2,l3,l4,_,_,_,_,_,llt⟩:=yG g6;have hw6:=hw5.drew.trans (ch6.to_below (fun x hx=>by rw [List.mem_singleton] at hx;omega) hw5.size);clear own6 g6;(try go_simp))
    | (go_simp;go_at_call 289;refine (HPU.out _ _ _ hw6.size HO6.out).mono ?_;rintro e w7 ⟨A7,c7,rfl,own7,hb7⟩;(try go_simp)))
   all_goals go_wp2
   all_goals go_ret2
   all_goals exact ⟨A7,c7,rfl,own7,hw6.trans hb7⟩
def zFu (ys:List Rp) (key:Rp) (v:Int):Bool:=kL (rfn ys key) ys.length && decide (v<=(ys.getD (dG (rfn ys key) 0 ys.length) zRp).2.1)
def wO (xs:List Rp) (x:Rp) (room:Int):List Rp × Int :=
 if zY x=false then ([],1)
 else if zFu (rD xs) (x.1,0,0,false,false) x.2.1 then ([],9)
 else if zFu (rD xs) (x.1,0,0,true,false) x.2.1 then ([],6)
 else if kL (rfn (rD xs) (x.1,0,0,true,false)) (rD xs).length=false/\room<=((rD xs).length:Int) then ([],7)
 else (zDd (rD xs) (x.1,x.2.1,x.2.2.1,true,false),0)
theorem zEE (ys:List Rp) (key:Rp) (v:Int):(kL (rfn ys key) ys.length=false/\zFu ys key v=false)\/(kL (rfn ys key) ys.length=true/\∃ (h:dG (rfn ys key) 0 ys.length<ys.length),zFu ys key v=decide (v<=(ys[dG (rfn ys key) 0 ys.length]'h).2.1)):=by
 cases hB:kL (rfn ys key) ys.length with
 | false=>exact .inl ⟨rfl,by unfold zFu;rw [hB];rfl⟩
 | true =>
  have hB2:dG (rfn ys key) 0 ys.length<ys.length:=by unfold kL at hB;simp at hB;exact hB.1
  exact .inr ⟨rfl,hB2,by unfold zFu;rw [hB,pB,rA hB2];rfl⟩
theorem zJr (A : Option mB) (c : Nat) (xs : List Rp) (x1 x2 x3 room : Int) (x4 x5 : Bool) (w : uA) (h : yB fJ w A c xs) (hs : xs.length < 1000000) : iA prog 214 #[.slice A xs.length c, .agg #[x1, x2, .int .u32 x3, .bool x4, .bool x5], .int .i64 room] w (zDm (wO xs (x1, x2, x3, x4, x5) room) w) := by
 have hmx:=h.max
 have hfl:=jL xs
 obtain ⟨W,hW⟩:∃ W,W=w.alloc (.cells #[x1,x2,.int .u32 x3,.bool x4,.bool x5] 124):=⟨_,rfl⟩
 have hb:Below w.heap.size w W:=by rw [hW];exact wA _ _
 have hg:W.heap[w.heap.size]?=yA (.cells #[x1,x2,.int .u32 x3,.bool x4,.bool x5] 124):=by rw [hW];exact rB _ _
 have HG:=fA hg
 have HWl:=fA (eB hg)
 have HFA:jC (iA prog 260 #[.slice A xs.length c] W (mD 124 5 (rD xs).length (flat fJ (rD xs)) W)):=fA (zBx A c xs W (h.below hb))
 have HFI:jC (∀ (b:Bool) (W':uA) (A:Option mB) (c:Nat),yB fJ W' A c (rD xs) -> iA prog 259 #[.slice A (rD xs).length c,x1,.bool b] W' fun e w'=>e=.returned (.tuple #[.int .i64 (iT (rfn (rD xs) (x1,0,0,b,false)) (rD xs).length),.bool (kL (rfn (rD xs) (x1,0,0,b,false)) (rD xs).length)])/\Below W'.heap.size W' w'):=fA fun b W' A c h=>zBy A c (rD xs) x1 b W' h
 have HNA:=fA (fun W=>zGi x1 x2 x3 x4 x5 W)
 have HW:=fA hW
 have hbe:wO xs (x1,x2,x3,x4,x5) room=if zY (x1,x2,x3,x4,x5)=false then ([],1)
  else if zFu (rD xs) (x1,0,0,false,false) x2 then ([],9)
  else if zFu (rD xs) (x1,0,0,true,false) x2 then ([],6)
  else if kL (rfn (rD xs) (x1,0,0,true,false)) (rD xs).length=false/\room<=((rD xs).length:Int) then ([],7)
  else (zDd (rD xs) (x1,x2,x3,true,false),0):=rfl
 rw [hbe]
 clear h hg hW hbe
 generalize rD xs=ys at *
 generalize zY (x1,x2,x3,x4,x5)=nm at *
 cases nm with
 | false =>
  rw [if_pos rfl]
  go_enter cU,fR
  go_wp2_with (first
   | (go_at_call 260;rw [<- HW.out];refine HFA.out.mono ?_;rintro e w1 ⟨A1,c1,rfl,own1,hb1⟩;have g1:=kA hb1 HG.out;have hw1:=hb.trans (hb1.mono hb.size);obtain ⟨a0,a1,a2,a3,a4,_,_,_,_,_,alt⟩:=yG g1)
   | (go_at_call 288;refine (HNA.out _).mono ?_;rintro e w2 ⟨rfl,hb2⟩;have hw2:=hw1.trans (hb2.mono hw1.size)))
  go_ret2
  exact ⟨none,0,rfl,nB _ _ _ _,hw2⟩
 | true =>
  rw [if_neg (by decide)]
  have HFH:=fA (HFI.out false)
  have HFT:=fA (HFI.out true)
  have HIH:jC (iT (rfn ys (x1,0,0,false,false)) ys.length=((dG (rfn ys (x1,0,0,false,false)) 0 ys.length:Nat):Int)):=rfl
  have HIT:jC (iT (rfn ys (x1,0,0,true,false)) ys.length=((dG (rfn ys (x1,0,0,true,false)) 0 ys.length:Nat):Int)):=rfl
  rw [HIH.out] at HFH
  rw [HIT.out] at HFT
  have hch:=zEE ys (x1,0,0,false,false) x2
  have hct:=zEE ys (x1,0,0,true,false) x2
  generalize zFu ys (x1,0,0,false,false) x2=vh at *
  generalize zFu ys (x1,0,0,true,false) x2=vt at *
  clear HFI HIH HIT
  generalize dG (rfn ys (x1,0,0,false,false)) 0 ys.length=mh at *
  generalize dG (rfn ys (x1,0,0,true,false)) 0 ys.length=mt at *
  have hmh0:(0:Int)<=(mh:Int):=by omega
  have hmt0:(0:Int)<=(mt:Int):=by omega
  have HPU:jC (∀ (W':uA) (A:Option mB) (c:Nat),W.heap.size<=W'.heap.size -> W'.ownsRow W.heap.size 124 5 (.slice A ys.length c) ys.length (flat fJ ys) -> iA prog 289 #[.slice A ys.length c,.agg #[x1,x2,.int .u32 x3,.bool true,.bool false]] W' (zRo fJ W.heap.size 124 5 (zDd ys (x1,x2,x3,true,false)) W')):=fA fun W' A c hs' ho=>zIF W.heap.size c A ys x1 x2 x3 true false W' hs' ho (by omega)
  generalize zDd ys (x1,x2,x3,true,false)=zs at *
  have HG2:jC (∀ (W':uA) (A:Option mB) (c m:Nat) (hm:m<ys.length),W'.ownsRow W.heap.size 124 5 (.slice A ys.length c) ys.length (flat fJ ys) -> ∃ g,A=yA ⟨g,0,none⟩/\W'.cell? ⟨g,m * 5+1,none⟩=yA (.int .i64 (ys[m]'hm).2.1)):=fA fun W' A c m hm ho=>by
   obtain ⟨g,rfl⟩:∃ g,A=yA ⟨g,0,none⟩:=by
    obtain ⟨g,c',hv,_⟩:=ho.form (by omega)
    injection hv with e
    exact ⟨g,e⟩
   exact ⟨g,rfl,mH ho (by rw [tK iO hm (by decide)];rfl)⟩
  rcases hch with ⟨hfh,rfl⟩ | ⟨hfh,hmh,hvh⟩
  ·rw [hfh] at HFH
   rw [if_neg (by decide)]
   rcases hct with ⟨hft,rfl⟩ | ⟨hft,hmt,hvt⟩
   ·rw [hft] at HFT ⊢
    rw [if_neg (by decide)]
    by_cases hrm:room<=(ys.length:Int)
    ·rw [if_pos ⟨rfl,hrm⟩]
     go_enter cU,fR
     go_wp2_with (first
      | (go_at_call 260;rw [<- HW.out];refine HFA.out.mono ?_;rintro e w1 ⟨A1,c1,rfl,own1,hb1⟩;have g1:=kA hb1 HG.out;have hw1:=hb.trans (hb1.mono hb.size);obtain ⟨a0,a1,a2,a3,a4,_,_,_,_,_,alt⟩:=yG g1)
      | (go_at_call 288;refine (HNA.out _).mono ?_;rintro e w2 ⟨rfl,hb2⟩;have hw2:=hw1.trans (hb2.mono hw1.size);have own2:=jB own1 hb2;have f2:=yB.of_own (enc:=fJ) own2 (by omega);have g2:=kA hb2 g1;obtain ⟨b0,b1,b2,b3,b4,_,_,_,_,_,blt⟩:=yG g2)
      | (go_at_call 259;(with_reducible refine (HFH.out _ _ _ f2).mono ?_);rintro e w3 ⟨rfl,hb3⟩;have hw3:=hw2.trans (hb3.mono hw2.size);have own3:=jB own2 hb3;have f3:=yB.of_own (enc:=fJ) own3 (by omega);have g3:=kA hb3 g2;obtain ⟨d0,d1,d2,d3,d4,_,_,_,_,_,dlt⟩:=yG g3)
      | (go_at_call 259;(with_reducible refine (HFT.out _ _ _ f3).mono ?_);rintro e w4 ⟨rfl,hb4⟩;have hw4:=hw3.trans (hb4.mono hw3.size);have own4:=jB own3 hb4;have g4:=kA hb4 g3;obtain ⟨e0,e1,e2,e3,e4,ef0,ef1,ef2,ef3,ef4,elt⟩:=yG g4;have HO4:=fA own4;have HS4:jC (W.heap.size<=w4.heap.size):=fA (pA hb1.size (pA hb2.size (pA hb3.size hb4.size)));clear own1 own2 own3 own4 f2 f3 a0 a1 a2 a3 a4 b0 b1 b2 b3 b4 d0 d1 d2 d3 d4 hb1 hb2 hb3 hb4 hw1 hw2 hw3 g1 g2 g3 alt blt dlt))
     go_quiet (fail)
     go_wp2_with fail
     go_quiet (fail)
     go_wp2
     go_ret2
     exact ⟨none,0,rfl,nB _ _ _ _,(by first | exact Below.many hw4 _ | exact Below.many (Below.many hw4 _) _)⟩
    ·rw [if_neg (fun h=>hrm h.2)]
     go_enter cU,fR
     go_wp2_with (first
      | (go_at_call 260;rw [<- HW.out];refine HFA.out.mono ?_;rintro e w1 ⟨A1,c1,rfl,own1,hb1⟩;have g1:=kA hb1 HG.out;have hw1:=hb.trans (hb1.mono hb.size);obtain ⟨a0,a1,a2,a3,a4,_,_,_,_,_,alt⟩:=yG g1)
      | (go_at_call 288;refine (HNA.out _).mono ?_;rintro e w2 ⟨rfl,hb2⟩;have hw2:=hw1.trans (hb2.mono hw1.size);have own2:=jB own1 hb2;have f2:=yB.of_own (enc:=fJ) own2 (by omega);have g2:=kA hb2 g1;obtain ⟨b0,b1,b2,b3,b4,_,_,_,_,_,blt⟩:=yG g2)
      | (go_at_call 259;(with_reducible refine (HFH.out _ _ _ f2).mono ?_);rintro e w3 ⟨rfl,hb3⟩;have hw3:=hw2.trans (hb3.mono hw2.size);have own3:=jB own2 hb3;have f3:=yB.of_own (enc:=fJ) own3 (by omega);have g3:=kA hb3 g2;obtain ⟨d0,d1,d2,d3,d4,_,_,_,_,_,dlt⟩:=yG g3)
      | (go_at_call 259;(with_reducible refine (HFT.out _ _ _ f3).mono ?_);rintro e w4 ⟨rfl,hb4⟩;have hw4:=hw3.trans (hb4.mono hw3.size);have own4:=jB own3 hb4;have g4:=kA hb4 g3;obtain ⟨e0,e1,e2,e3,e4,ef0,ef1,ef2,ef3,ef4,elt⟩:=yG g4;have HO4:=fA own4;have HS4:jC (W.heap.size<=w4.heap.size):=fA (pA hb1.size (pA hb2.size (pA hb3.size hb4.size)));clear own1 own2 own3 own4 f2 f3 a0 a1 a2 a3 a4 b0 b1 b2 b3 b4 d0 d1 d2 d3 d4 hb1 hb2 hb3 hb4 hw1 hw2 hw3 g1 g2 g3 alt blt dlt))
     go_quiet (fail)
     go_wp2_with fail
     go_quiet (fail)
     have HX:jC (∀ W':uA,W'.ownsRow W.heap.size 124 5 (.slice A1 ys.length c1) ys.length (flat fJ ys) -> ((W'.setCell ⟨w.heap.size,3,none⟩ (.bool true)).setCell ⟨w.heap.size,4,none⟩ (.bool false)).ownsRow W.heap.size 124 5 (.slice A1 ys.length c1) ys.length (flat fJ ys)):=fA fun W' hW'=>rE (rE hW' (fun x hx=>by have:=(qC HO4.out x hx).1;have:=HWl.out;omega) _ _) (fun x hx=>by have:=(qC HO4.out x hx).1;have:=HWl.out;omega) _ _
     go_wp2_with (go_at_call 289;refine (HPU.out _ _ _ (by simp;exact HS4.out) (HX.out _ (by first | exact sN HO4.out _ | exact sN (sN HO4.out _) _))).mono ?_;rintro e w5 ⟨A5,c5,rfl,own5,hb5⟩)
     go_ret2
     exact ⟨A5,c5,rfl,oC own5 hb.size,(((show Below w.heap.size w _ from (by first | exact Below.many hw4 _ | exact Below.many (Below.many hw4 _) _)).setCell (p:=⟨w.heap.size,3,none⟩) (mA _) _).setCell (p:=⟨w.heap.size,4,none⟩) (mA _) _).trans (hb5.mono hb.size)⟩
   ·rw [hft] at HFT ⊢
    have hmt1:(mt:Int)<(ys.length:Int):=by omega
    generalize hve:(ys[mt]'hmt).2.1=vert at *
    have HVE:=fA hve
    clear hve
    by_cases hvt2:x2<=vert
    ·rw [decide_eq_true hvt2] at hvt
     subst hvt
     rw [if_pos rfl]
     go_enter cU,fR
     go_wp2_with (first
      | (go_at_call 260;rw [<- HW.out];refine HFA.out.mono ?_;rintro e w1 ⟨A1,c1,rfl,own1,hb1⟩;have g1:=kA hb1 HG.out;have hw1:=hb.trans (hb1.mono hb.size);obtain ⟨a0,a1,a2,a3,a4,_,_,_,_,_,alt⟩:=yG g1)
      | (go_at_call 288;refine (HNA.out _).mono ?_;rintro e w2 ⟨rfl,hb2⟩;have hw2:=hw1.trans (hb2.mono hw1.size);have own2:=jB own1 hb2;have f2:=yB.of_own (enc:=fJ) own2 (by omega);have g2:=kA hb2 g1;obtain ⟨b0,b1,b2,b3,b4,_,_,_,_,_,blt⟩:=yG g2)
      | (go_at_call 259;(with_reducible refine (HFH.out _ _ _ f2).mono ?_);rintro e w3 ⟨rfl,hb3⟩;have hw3:=hw2.trans (hb3.mono hw2.size);have own3:=jB own2 hb3;have f3:=yB.of_own (enc:=fJ) own3 (by omega);have g3:=kA hb3 g2;obtain ⟨d0,d1,d2,d3,d4,_,_,_,_,_,dlt⟩:=yG g3)
      | (go_at_call 259;(with_reducible refine (HFT.out _ _ _ f3).mono ?_);rintro e w4 ⟨rfl,hb4⟩;have hw4:=hw3.trans (hb4.mono hw3.size);have own4:=jB own3 hb4;have g4:=kA hb4 g3;obtain ⟨e0,e1,e2,e3,e4,ef0,ef1,ef2,ef3,ef4,elt⟩:=yG g4;have HO4:=fA own4;have HS4:jC (W.heap.size<=w4.heap.size):=fA (pA hb1.size (pA hb2.size (pA hb3.size hb4.size)));obtain ⟨g,hgA,ht1⟩:=HG2.out w4 A1 c1 mt hmt own4;subst hgA;rw [HVE.out] at ht1;clear own1 own2 own3 own4 f2 f3 a0 a1 a2 a3 a4 b0 b1 b2 b3 b4 d0 d1 d2 d3 d4 hb1 hb2 hb3 hb4 hw1 hw2 hw3 g1 g2 g3 alt blt dlt))
     go_quiet (fail)
     go_wp2_with fail
     go_quiet (fail)
     go_wp2
     go_ret2
     exact ⟨none,0,rfl,nB _ _ _ _,(by first | exact Below.many hw4 _ | exact Below.many (Below.many hw4 _) _)⟩
    ·rw [decide_eq_false hvt2] at hvt
     subst hvt
     rw [if_neg (by decide),if_neg (fun h=>by cases h.1)]
     go_enter cU,fR
     go_wp2_with (first
      | (go_at_call 260;rw [<- HW.out];refine HFA.out.mono ?_;rintro e w1 ⟨A1,c1,rfl,own1,hb1⟩;have g1:=kA hb1 HG.out;have hw1:=hb.trans (hb1.mono hb.size);obtain ⟨a0,a1,a2,a3,a4,_,_,_,_,_,alt⟩:=yG g1)
      | (go_at_call 288;refine (HNA.out _).mono ?_;rintro e w2 ⟨rfl,hb2⟩;have hw2:=hw1.trans (hb2.mono hw1.size);have own2:=jB own1 hb2;have f2:=yB.of_own (enc:=fJ) own2 (by omega);have g2:=kA hb2 g1;obtain ⟨b0,b1,b2,b3,b4,_,_,_,_,_,blt⟩:=yG g2)
      | (go_at_call 259;(with_reducible refine (HFH.out _ _ _ f2).mono ?_);rintro e w3 ⟨rfl,hb3⟩;have hw3:=hw2.trans (hb3.mono hw2.size);have own3:=jB own2 hb3;have f3:=yB.of_own (enc:=fJ) own3 (by omega);have g3:=kA hb3 g2;obtain ⟨d0,d1,d2,d3,d4,_,_,_,_,_,dlt⟩:=yG g3)
      | (go_at_call 259;(with_reducible refine (HFT.out _ _ _ f3).mono ?_);rintro e w4 ⟨rfl,hb4⟩;have hw4:=hw3.trans (hb4.mono hw3.size);have own4:=jB own3 hb4;have g4:=kA hb4 g3;obtain ⟨e0,e1,e2,e3,e4,ef0,ef1,ef2,ef3,ef4,elt⟩:=yG g4;have HO4:=fA own4;have HS4:jC (W.heap.size<=w4.heap.size):=fA (pA hb1.size (pA hb2.size (pA hb3.size hb4.size)));obtain ⟨g,hgA,ht1⟩:=HG2.out w4 A1 c1 mt hmt own4;subst hgA;rw [HVE.out] at ht1;clear own1 own2 own3 own4 f2 f3 a0 a1 a2 a3 a4 b0 b1 b2 b3 b4 d0 d1 d2 d3 d4 hb1 hb2 hb3 hb4 hw1 hw2 hw3 g1 g2 g3 alt blt dlt))
     go_quiet (fail)
     go_wp2_with fail
     go_quiet (fail)
     have HX:jC (∀ W':uA,W'.ownsRow W.heap.size 124 5 (.slice (yA ⟨g,0,none⟩) ys.length c1) ys.length (flat fJ ys) -> ((W'.setCell ⟨w.heap.size,3,none⟩ (.bool true)).setCell ⟨w.heap.size,4,none⟩ (.bool false)).ownsRow W.heap.size 124 5 (.slice (yA ⟨g,0,none⟩) ys.length c1) ys.length (flat fJ ys)):=fA fun W' hW'=>rE (rE hW' (fun x hx=>by have:=(qC HO4.out x hx).1;have:=HWl.out;omega) _ _) (fun x hx=>by have:=(qC HO4.out x hx).1;have:=HWl.out;omega) _ _
     go_wp2_with (go_at_call 289;refine (HPU.out _ _ _ (by simp;exact HS4.out) (HX.out _ (by first | exact sN HO4.out _ | exact sN (sN HO4.out _) _))).mono ?_;rintro e w5 ⟨A5,c5,rfl,own5,hb5⟩)
     go_ret2
     exact ⟨A5,c5,rfl,oC own5 hb.size,(((show Below w.heap.size w _ from (by first | exact Below.many hw4 _ | exact Below.many (Below.many hw4 _) _)).setCell (p:=⟨w.heap.size,3,none⟩) (mA _) _).setCell (p:=⟨w.heap.size,4,none⟩) (mA _) _).trans (hb5.mono hb.size)⟩
  ·rw [hfh] at HFH
   have hmh1:(mh:Int)<(ys.length:Int):=by omega
   generalize hvf:(ys[mh]'hmh).2.1=verh at *
   have HVF:=fA hvf
   clear hvf
   by_cases hvh2:x2<=verh
   ·rw [decide_eq_true hvh2] at hvh
    subst hvh
    rw [if_pos rfl]
    go_enter cU,fR
    go_wp2_with (first
     | (go_at_call 260;rw [<- HW.out];refine HFA.out.mono ?_;rintro e w1 ⟨A1,c1,rfl,own1,hb1⟩;have g1:=kA hb1 HG.out;have hw1:=hb.trans (hb1.mono hb.size);obtain ⟨a0,a1,a2,a3,a4,_,_,_,_,_,alt⟩:=yG g1)
     | (go_at_call 288;refine (HNA.out _).mono ?_;rintro e w2 ⟨rfl,hb2⟩;have hw2:=hw1.trans (hb2.mono hw1.size);have own2:=jB own1 hb2;have f2:=yB.of_own (enc:=fJ) own2 (by omega);have g2:=kA hb2 g1;obtain ⟨b0,b1,b2,b3,b4,_,_,_,_,_,blt⟩:=yG g2)
     | (go_at_call 259;(with_reducible refine (HFH.out _ _ _ f2).mono ?_);rintro e w3 ⟨rfl,hb3⟩;have hw3:=hw2.trans (hb3.mono hw2.size);have own3:=jB own2 hb3;have f3:=yB.of_own (enc:=fJ) own3 (by omega);have g3:=kA hb3 g2;obtain ⟨d0,d1,d2,d3,d4,_,_,_,_,_,dlt⟩:=yG g3)
     | (go_at_call 259;(with_reducible refine (HFT.out _ _ _ f3).mono ?_);rintro e w4 ⟨rfl,hb4⟩;have hw4:=hw3.trans (hb4.mono hw3.size);have own4:=jB own3 hb4;have g4:=kA hb4 g3;obtain ⟨e0,e1,e2,e3,e4,ef0,ef1,ef2,ef3,ef4,elt⟩:=yG g4;have HO4:=fA own4;have HS4:jC (W.heap.size<=w4.heap.size):=fA (pA hb1.size (pA hb2.size (pA hb3.size hb4.size)));obtain ⟨g,hgA,hh1⟩:=HG2.out w4 A1 c1 mh hmh own4;subst hgA;rw [HVF.out] at hh1;clear own1 own2 own3 own4 f2 f3 a0 a1 a2 a3 a4 b0 b1 b2 b3 b4 d0 d1 d2 d3 d4 hb1 hb2 hb3 hb4 hw1 hw2 hw3 g1 g2 g3 alt blt dlt))
    go_quiet (fail)
    go_wp2
    go_ret2
    exact ⟨none,0,rfl,nB _ _ _ _,(by first | exact Below.many hw4 _ | exact Below.many (Below.many hw4 _) _)⟩
   ·rw [decide_eq_false hvh2] at hvh
    subst hvh
    rw [if_neg (by decide)]
    rcases hct with ⟨hft,rfl⟩ | ⟨hft,hmt,hvt⟩
    ·rw [hft] at HFT ⊢
     rw [if_neg (by decide)]
     by_cases hrm:room<=(ys.length:Int)
     ·rw [if_pos ⟨rfl,hrm⟩]
      go_enter cU,fR
      go_wp2_with (first
       | (go_at_call 260;rw [<- HW.out];refine HFA.out.mono ?_;rintro e w1 ⟨A1,c1,rfl,own1,hb1⟩;have g1:=kA hb1 HG.out;have hw1:=hb.trans (hb1.mono hb.size);obtain ⟨a0,a1,a2,a3,a4,_,_,_,_,_,alt⟩:=yG g1)
       | (go_at_call 288;refine (HNA.out _).mono ?_;rintro e w2 ⟨rfl,hb2⟩;have hw2:=hw1.trans (hb2.mono hw1.size);have own2:=jB own1 hb2;have f2:=yB.of_own (enc:=fJ) own2 (by omega);have g2:=kA hb2 g1;obtain ⟨b0,b1,b2,b3,b4,_,_,_,_,_,blt⟩:=yG g2)
       | (go_at_call 259;(with_reducible refine (HFH.out _ _ _ f2).mono ?_);rintro e w3 ⟨rfl,hb3⟩;have hw3:=hw2.trans (hb3.mono hw2.size);have own3:=jB own2 hb3;have f3:=yB.of_own (enc:=fJ) own3 (by omega);have g3:=kA hb3 g2;obtain ⟨d0,d1,d2,d3,d4,_,_,_,_,_,dlt⟩:=yG g3)
       | (go_at_call 259;(with_reducible refine (HFT.out _ _ _ f3).mono ?_);rintro e w4 ⟨rfl,hb4⟩;have hw4:=hw3.trans (hb4.mono hw3.size);have own4:=jB own3 hb4;have g4:=kA hb4 g3;obtain ⟨e0,e1,e2,e3,e4,ef0,ef1,ef2,ef3,ef4,elt⟩:=yG g4;have HO4:=fA own4;have HS4:jC (W.heap.size<=w4.heap.size):=fA (pA hb1.size (pA hb2.size (pA hb3.size hb4.size)));obtain ⟨g,hgA,hh1⟩:=HG2.out w4 A1 c1 mh hmh own4;subst hgA;rw [HVF.out] at hh1;clear own1 own2 own3 own4 f2 f3 a0 a1 a2 a3 a4 b0 b1 b2 b3 b4 d0 d1 d2 d3 d4 hb1 hb2 hb3 hb4 hw1 hw2 hw3 g1 g2 g3 alt blt dlt))
      go_quiet (fail)
      go_wp2_with fail
      go_quiet (fail)
      go_wp2
      go_ret2
      exact ⟨none,0,rfl,nB _ _ _ _,(by first | exact Below.many hw4 _ | exact Below.many (Below.many hw4 _) _)⟩
     ·rw [if_neg (fun h=>hrm h.2)]
      go_enter cU,fR
      go_wp2_with (first
       | (go_at_call 260;rw [<- HW.out];refine HFA.out.mono ?_;rintro e w1 ⟨A1,c1,rfl,own1,hb1⟩;have g1:=kA hb1 HG.out;have hw1:=hb.trans (hb1.mono hb.size);obtain ⟨a0,a1,a2,a3,a4,_,_,_,_,_,alt⟩:=yG g1)
       | (go_at_call 288;refine (HNA.out _).mono ?_;rintro e w2 ⟨rfl,hb2⟩;have hw2:=hw1.trans (hb2.mono hw1.size);have own2:=jB own1 hb2;have f2:=yB.of_own (enc:=fJ) own2 (by omega);have g2:=kA hb2 g1;obtain ⟨b0,b1,b2,b3,b4,_,_,_,_,_,blt⟩:=yG g2)
       | (go_at_call 259;(with_reducible refine (HFH.out _ _ _ f2).mono ?_);rintro e w3 ⟨rfl,hb3⟩;have hw3:=hw2.trans (hb3.mono hw2.size);have own3:=jB own2 hb3;have f3:=yB.of_own (enc:=fJ) own3 (by omega);have g3:=kA hb3 g2;obtain ⟨d0,d1,d2,d3,d4,_,_,_,_,_,dlt⟩:=yG g3)
       | (go_at_call 259;(with_reducible refine (HFT.out _ _ _ f3).mono ?_);rintro e w4 ⟨rfl,hb4⟩;have hw4:=hw3.trans (hb4.mono hw3.size);have own4:=jB own3 hb4;have g4:=kA hb4 g3;obtain ⟨e0,e1,e2,e3,e4,ef0,ef1,ef2,ef3,ef4,elt⟩:=yG g4;have HO4:=fA own4;have HS4:jC (W.heap.size<=w4.heap.size):=fA (pA hb1.size (pA hb2.size (pA hb3.size hb4.size)));obtain ⟨g,hgA,hh1⟩:=HG2.out w4 A1 c1 mh hmh own4;subst hgA;rw [HVF.out] at hh1;clear own1 own2 own3 own4 f2 f3 a0 a1 a2 a3 a4 b0 b1 b2 b3 b4 d0 d1 d2 d3 d4 hb1 hb2 hb3 hb4 hw1 hw2 hw3 g1 g2 g3 alt blt dlt))
      go_quiet (fail)
      go_wp2_with fail
      go_quiet (fail)
      have HX:jC (∀ W':uA,W'.ownsRow W.heap.size 124 5 (.slice (yA ⟨g,0,none⟩) ys.length c1) ys.length (flat fJ ys) -> ((W'.setCell ⟨w.heap.size,3,none⟩ (.bool true)).setCell ⟨w.heap.size,4,none⟩ (.bool false)).ownsRow W.heap.size 124 5 (.slice (yA ⟨g,0,none⟩) ys.length c1) ys.length (flat fJ ys)):=fA fun W' hW'=>rE (rE hW' (fun x hx=>by have:=(qC HO4.out x hx).1;have:=HWl.out;omega) _ _) (fun x hx=>by have:=(qC HO4.out x hx).1;have:=HWl.out;omega) _ _
      go_wp2_with (go_at_call 289;refine (HPU.out _ _ _ (by simp;exact HS4.out) (HX.out _ (by first | exact sN HO4.out _ | exact sN (sN HO4.out _) _))).mono ?_;rintro e w5 ⟨A5,c5,rfl,own5,hb5⟩)
      go_ret2
      exact ⟨A5,c5,rfl,oC own5 hb.size,(((show Below w.heap.size w _ from (by first | exact Below.many hw4 _ | exact Below.many (Below.many hw4 _) _)).setCell (p:=⟨w.heap.size,3,none⟩) (mA _) _).setCell (p:=⟨w.heap.size,4,none⟩) (mA _) _).trans (hb5.mono hb.size)⟩
    ·rw [hft] at HFT ⊢
     have hmt1:(mt:Int)<(ys.length:Int):=by omega
     generalize hve:(ys[mt]'hmt).2.1=vert at *
     have HVE:=fA hve
     clear hve
     by_cases hvt2:x2<=vert
     ·rw [decide_eq_true hvt2] at hvt
      subst hvt
      rw [if_pos rfl]
      go_enter cU,fR
      go_wp2_with (first
       | (go_at_call 260;rw [<- HW.out];refine HFA.out.mono ?_;rintro e w1 ⟨A1,c1,rfl,own1,hb1⟩;have g1:=kA hb1 HG.out;have hw1:=hb.trans (hb1.mono hb.size);obtain ⟨a0,a1,a2,a3,a4,_,_,_,_,_,alt⟩:=yG g1)
       | (go_at_call 288;refine (HNA.out _).mono ?_;rintro e w2 ⟨rfl,hb2⟩;have hw2:=hw1.trans (hb2.mono hw1.size);have own2:=jB own1 hb2;have f2:=yB.of_own (enc:=fJ) own2 (by omega);have g2:=kA hb2 g1;obtain ⟨b0,b1,b2,b3,b4,_,_,_,_,_,blt⟩:=yG g2)
       | (go_at_call 259;(with_reducible refine (HFH.out _ _ _ f2).mono ?_);rintro e w3 ⟨rfl,hb3⟩;have hw3:=hw2.trans (hb3.mono hw2.size);have own3:=jB own2 hb3;have f3:=yB.of_own (enc:=fJ) own3 (by omega);have g3:=kA hb3 g2;obtain ⟨d0,d1,d2,d3,d4,_,_,_,_,_,dlt⟩:=yG g3)
       | (go_at_call 259;(with_reducible refine (HFT.out _ _ _ f3).mono ?_);rintro e w4 ⟨rfl,hb4⟩;have hw4:=hw3.trans (hb4.mono hw3.size);have own4:=jB own3 hb4;have g4:=kA hb4 g3;obtain ⟨e0,e1,e2,e3,e4,ef0,ef1,ef2,ef3,ef4,elt⟩:=yG g4;have HO4:=fA own4;have HS4:jC (W.heap.size<=w4.heap.size):=fA (pA hb1.size (pA hb2.size (pA hb3.size hb4.size)));obtain ⟨g,hgA,hh1⟩:=HG2.out w4 A1 c1 mh hmh own4;subst hgA;rw [HVF.out] at hh1;obtain ⟨g2,hgA2,ht1⟩:=HG2.out w4 _ c1 mt hmt own4;injection hgA2 with hgA2;injection hgA2 with hgA2;subst hgA2;rw [HVE.out] at ht1;clear own1 own2 own3 own4 f2 f3 a0 a1 a2 a3 a4 b0 b1 b2 b3 b4 d0 d1 d2 d3 d4 hb1 hb2 hb3 hb4 hw1 hw2 hw3 g1 g2 g3 alt blt dlt))
      go_quiet (fail)
      go_wp2_with fail
      go_quiet (fail)
      go_wp2
      go_ret2
      exact ⟨none,0,rfl,nB _ _ _ _,(by first | exact Below.many hw4 _ | exact Below.many (Below.many hw4 _) _)⟩
     ·rw [decide_eq_false hvt2] at hvt
      subst hvt
      rw [if_neg (by decide),if_neg (fun h=>by cases h.1)]
      go_enter cU,fR
      go_wp2_with (first
       | (go_at_call 260;rw [<- HW.out];refine HFA.out.mono ?_;rintro e w1 ⟨A1,c1,rfl,own1,hb1⟩;have g1:=kA hb1 HG.out;have hw1:=hb.trans (hb1.mono hb.size);obtain ⟨a0,a1,a2,a3,a4,_,_,_,_,_,alt⟩:=yG g1)
       | (go_at_call 288;refine (HNA.out _).mono ?_;rintro e w2 ⟨rfl,hb2⟩;have hw2:=hw1.trans (hb2.mono hw1.size);have own2:=jB own1 hb2;have f2:=yB.of_own (enc:=fJ) own2 (by omega);have g2:=kA hb2 g1;obtain ⟨b0,b1,b2,b3,b4,_,_,_,_,_,blt⟩:=yG g2)
       | (go_at_call 259;(with_reducible refine (HFH.out _ _ _ f2).mono ?_);rintro e w3 ⟨rfl,hb3⟩;have hw3:=hw2.trans (hb3.mono hw2.size);have own3:=jB own2 hb3;have f3:=yB.of_own (enc:=fJ) own3 (by omega);have g3:=kA hb3 g2;obtain ⟨d0,d1,d2,d3,d4,_,_,_,_,_,dlt⟩:=yG g3)
       | (go_at_call 259;(with_reducible refine (HFT.out _ _ _ f3).mono ?_);rintro e w4 ⟨rfl,hb4⟩;have hw4:=hw3.trans (hb4.mono hw3.size);have own4:=jB own3 hb4;have g4:=kA hb4 g3;obtain ⟨e0,e1,e2,e3,e4,ef0,ef1,ef2,ef3,ef4,elt⟩:=yG g4;have HO4:=fA own4;have HS4:jC (W.heap.size<=w4.heap.size):=fA (pA hb1.size (pA hb2.size (pA hb3.size hb4.size)));obtain ⟨g,hgA,hh1⟩:=HG2.out w4 A1 c1 mh hmh own4;subst hgA;rw [HVF.out] at hh1;obtain ⟨g2,hgA2,ht1⟩:=HG2.out w4 _ c1 mt hmt own4;injection hgA2 with hgA2;injection hgA2 with hgA2;subst hgA2;rw [HVE.out] at ht1;clear own1 own2 own3 own4 f2 f3 a0 a1 a2 a3 a4 b0 b1 b2 b3 b4 d0 d1 d2 d3 d4 hb1 hb2 hb3 hb4 hw1 hw2 hw3 g1 g2 g3 alt blt dlt))
      go_quiet (fail)
      go_wp2_with fail
      go_quiet (fail)
      have HX:jC (∀ W':uA,W'.ownsRow W.heap.size 124 5 (.slice (yA ⟨g,0,none⟩) ys.length c1) ys.length (flat fJ ys) -> ((W'.setCell ⟨w.heap.size,3,none⟩ (.bool true)).setCell ⟨w.heap.size,4,none⟩ (.bool false)).ownsRow W.heap.size 124 5 (.slice (yA ⟨g,0,none⟩) ys.length c1) ys.length (flat fJ ys)):=fA fun W' hW'=>rE (rE hW' (fun x hx=>by have:=(qC HO4.out x hx).1;have:=HWl.out;omega) _ _) (fun x hx=>by have:=(qC HO4.out x hx).1;have:=HWl.out;omega) _ _
      go_wp2_with (go_at_call 289;refine (HPU.out _ _ _ (by simp;exact HS4.out) (HX.out _ (by first | exact sN HO4.out _ | exact sN (sN HO4.out _) _))).mono ?_;rintro e w5 ⟨A5,c5,rfl,own5,hb5⟩)
      go_ret2
      exact ⟨A5,c5,rfl,oC own5 hb.size,(((show Below w.heap.size w _ from (by first | exact Below.many hw4 _ | exact Below.many (Below.many hw4 _) _)).setCell (p:=⟨w.heap.size,3,none⟩) (mA _) _).setCell (p:=⟨w.heap.size,4,none⟩) (mA _) _).trans (hb5.mono hb.size)⟩
end Go.Proofs.YtogbpifcmhafkaaGreat
