/-
 Part PQ of the proof.
-/
import Derived.Test.YtogbpifcmhafkaaGreatPI
import Derived.Test.YtogbpifcmhafkaaGreatPM
import Derived.Test.YtogbpifcmhafkaaGreatPJ
import Derived.Test.YtogbpifcmhafkaaGreatPK
open Bool renaming and_eq_true->kC,false_eq_true->uG
open Go renaming Addr->mB,Calls->iA,World->uA
open Go.Lib renaming hid->fA
open Go.Proofs renaming enters_of->yE
open Go.Proofs.Tryz renaming underlying153->zO
open Go.RowKit renaming Hid->jC
open Go.Value renaming int->dD
open List renaming getD_eq_getElem?_getD->pB,getElem?_eq_getElem->rA,length_set->lD,take_of_length_le->zC
open Nat renaming le_refl->mA,lt_of_lt_of_le->tA
open Option renaming getD_some->yD,some->yA
namespace Go.Proofs.YtogbpifcmhafkaaGreat
open Go.RowKit Tryz
open Go.Lib(hid)
set_option linter.unusedVariables false
set_option linter.unusedSimpArgs false
set_option maxRecDepth 100000
set_option maxHeartbeats 16000000
def sK (hs alive:List Int):List Int:=nE (fun id => !ctn alive id) hs
theorem zIm (B:Nat) (A:Option mB) (c:Nat) (alive:List Int) (W0 w:uA) (h:yB kG W0 A c alive) (hl:B<W0.heap.size) (hB:W0.cell? ⟨B,0,none⟩=yA (.slice A alive.length c)) (hb:Below W0.heap.size W0 w):xQ W0.heap.size 242 #[(B,0)] (fun x:Int=>dD .i64 x) (fun id => !ctn alive id) w:=by
 intro W x hW
 have h0:=hb.trans hW
 have hBW:=((bcell h0).1 B 0 hl).trans hB
 have HC:=fA (pQ A c alive x W (h.below h0))
 show iA prog 242 #[x,.pointer (yA ⟨B,0,none⟩)] W fun e w'=>e=.returned (.bool (!ctn alive x))/\Below W.heap.size W w'
 generalize ctn alive x=r at *
 clear h hB hW
 go_enter func242,ntmps242
 go_wp2_with (go_at_call 68;refine HC.out.mono ?_;rintro e w1 ⟨rfl,hx⟩;subst hx)
 go_ret
 exact ⟨rfl,xC _⟩
theorem zEM (x1 x2 x3:Int) (a:Option mB) (cc:Nat) (hs:List Int) (A:Option mB) (c:Nat) (alive:List Int) (w:uA) (h:yB kG w a cc hs) (k:yB kG w A c alive):iA prog 175 #[.agg #[x1,x2,.int .u32 x3,.slice a hs.length cc],.slice A alive.length c] w (mD 3 1 (sK hs alive).length (flat kG (sK hs alive)) w):=by
 have hmx:=h.max
 obtain ⟨W,hW⟩:∃ W,W=(w.alloc (.cells #[x1,x2,.int .u32 x3,.slice a hs.length cc] 65)).alloc (.cells #[.slice A alive.length c] 63):=⟨_,rfl⟩
 have hb:Below w.heap.size w W:=by rw [hW];exact yI _ _ _
 have g1:W.heap[w.heap.size]?=yA (.cells #[x1,x2,.int .u32 x3,.slice a hs.length cc] 65):=by rw [hW];exact bG _ _ _
 have g2:W.heap[w.heap.size+1]?=yA (.cells #[.slice A alive.length c] 63):=by rw [hW];exact sF _ _ _
 obtain ⟨c0,c1,c2,c3,_,_,_,_,clt⟩:=nH g1
 have HCL:=fA (jT a cc hs.length (flat kG hs) W (h.row.below hb) h.none_ (jD dN _) (jF cV _) hmx)
 have HDF:jC (∀ (w1:uA) (A1:Option mB) (c1:Nat),Below W.heap.size W w1 -> w1.ownsRow W.heap.size 3 1 (.slice A1 hs.length c1) hs.length (flat kG hs) -> iA prog 57 #[.slice A1 hs.length c1,.func (.func 242) #[] #[.pointer (yA ⟨w.heap.size+1,0,none⟩)]] w1 (wY kG W.heap.size 3 1 A1 c1 (sK hs alive) w1)):=fA fun w1 A1 c1 hb1 ho=>jV A1 c1 hs W.heap.size 242 #[.pointer (yA ⟨w.heap.size+1,0,none⟩)] (yE func242 (by kernel_rfl) rfl) (fun id => !ctn alive id) w1 hb1.size ho hmx (zIm (w.heap.size+1) A c alive W w1 (k.below hb) (eB g2) (jA g2 0) hb1)
 have HW:=fA hW
 clear h k g1 g2 hW
 generalize sK hs alive=ys at *
 go_enter func175,ntmps175
 go_wp2_with (first
  | (go_at_call 121;rw [<- HW.out];refine HCL.out.mono ?_;rintro e w1 ⟨A1,c1',rfl,own1,hb1⟩)
  | (go_at_call 57;refine (HDF.out _ _ _ hb1 own1).mono ?_;rintro e w2 ⟨rfl,own2,hb2⟩))
 go_ret
 exact ⟨A1,c1',rfl,oC own2 hb.size,hb.trans ((hb1.trans hb2).mono hb.size)⟩
def serves (ns:List Nd) (id:Int):Bool:=(kJ ns id).2 && decide ((kJ ns id).1.2.2.2=0)
def mM (hs:List Int) (ns:List Nd) (alive:List Int):List Int:=nE (fun id => !serves ns id) (sK hs alive)
theorem xX (hs alive:List Int):(sK hs alive).length<=hs.length:=wJ _ _
theorem zLV (B:Nat) (A:Option mB) (c:Nat) (ns:List Nd) (W0 w:uA) (h:yB qH W0 A c ns) (hl:B<W0.heap.size) (hB:W0.cell? ⟨B,0,none⟩=yA (.slice A ns.length c)) (hb:Below W0.heap.size W0 w):xQ W0.heap.size 240 #[(B,0)] (fun x:Int=>dD .i64 x) (fun id => !serves ns id) w:=by
 intro W x hW
 have h0:=hb.trans hW
 have hBW:=((bcell h0).1 B 0 hl).trans hB
 have HF:=fA (rS A c ns x W (h.below h0))
 show iA prog 240 #[x,.pointer (yA ⟨B,0,none⟩)] W fun e w'=>e=.returned (.bool (!serves ns x))/\Below W.heap.size W w'
 unfold serves
 generalize kJ ns x=r at *
 obtain ⟨⟨x1,x2,x3,x4⟩,fd⟩:=r
 simp only at HF ⊢
 clear h hB hW
 cases fd with
 | false =>
  go_enter func240,ntmps240
  go_wp2_with (go_at_call 241;refine HF.out.mono ?_;rintro e w1 ⟨rfl,hb1⟩)
  go_ret
  exact ⟨rfl,hb1.alloc hb1.size _⟩
 | true =>
  by_cases h4:x4=0
  ·subst h4
   go_enter func240,ntmps240
   go_wp2_with (go_at_call 241;refine HF.out.mono ?_;rintro e w1 ⟨rfl,hb1⟩)
   go_ret
   exact ⟨bC (by simp),hb1.alloc hb1.size _⟩
  ·go_enter func240,ntmps240
   go_wp2_with (go_at_call 241;refine HF.out.mono ?_;rintro e w1 ⟨rfl,hb1⟩)
   go_ret
   exact ⟨bC (by simp [h4]),hb1.alloc hb1.size _⟩
theorem zIf (x1 x2 x3:Int) (a:Option mB) (cc:Nat) (hs:List Int) (N:Option mB) (nc:Nat) (ns:List Nd) (A:Option mB) (c:Nat) (alive:List Int) (w:uA) (h:yB kG w a cc hs) (k:yB kG w A c alive) (kn:yB qH w N nc ns):iA prog 174 #[.agg #[x1,x2,.int .u32 x3,.slice a hs.length cc],.slice N ns.length nc,.slice A alive.length c] w (mD 3 1 (mM hs ns alive).length (flat kG (mM hs ns alive)) w):=by
 have hmx:=h.max
 have hll:=xX hs alive
 obtain ⟨W,hW⟩:∃ W,W=(w.alloc (.cells #[x1,x2,.int .u32 x3,.slice a hs.length cc] 65)).alloc (.cells #[.slice N ns.length nc] 47):=⟨_,rfl⟩
 have hb:Below w.heap.size w W:=by rw [hW];exact yI _ _ _
 have g1:W.heap[w.heap.size]?=yA (.cells #[x1,x2,.int .u32 x3,.slice a hs.length cc] 65):=by rw [hW];exact bG _ _ _
 have g2:W.heap[w.heap.size+1]?=yA (.cells #[.slice N ns.length nc] 47):=by rw [hW];exact sF _ _ _
 obtain ⟨c0,c1,c2,c3,_,_,_,_,clt⟩:=nH g1
 have HCL:=fA (zEM x1 x2 x3 a cc hs A c alive W (h.below hb) (k.below hb))
 have HDF:jC (∀ (w1:uA) (A1:Option mB) (c1:Nat),Below W.heap.size W w1 -> w1.ownsRow W.heap.size 3 1 (.slice A1 (sK hs alive).length c1) (sK hs alive).length (flat kG (sK hs alive)) -> iA prog 57 #[.slice A1 (sK hs alive).length c1,.func (.func 240) #[] #[.pointer (yA ⟨w.heap.size+1,0,none⟩)]] w1 (wY kG W.heap.size 3 1 A1 c1 (mM hs ns alive) w1)):=fA fun w1 A1 c1 hb1 ho=>jV A1 c1 (sK hs alive) W.heap.size 240 #[.pointer (yA ⟨w.heap.size+1,0,none⟩)] (yE func240 (by kernel_rfl) rfl) (fun id => !serves ns id) w1 hb1.size ho (by omega) (zLV (w.heap.size+1) N nc ns W w1 (kn.below hb) (eB g2) (jA g2 0) hb1)
 have HW:=fA hW
 clear h k kn g1 g2 hW
 generalize mM hs ns alive=zs at *
 generalize sK hs alive=ys at *
 go_enter func174,ntmps174
 go_wp2_with (first
  | (go_at_call 175;rw [<- HW.out];refine HCL.out.mono ?_;rintro e w1 ⟨A1,c1',rfl,own1,hb1⟩)
  | (go_at_call 57;refine (HDF.out _ _ _ hb1 own1).mono ?_;rintro e w2 ⟨rfl,own2,hb2⟩))
 go_ret
 exact ⟨A1,c1',rfl,oC own2 hb.size,hb.trans ((hb1.trans hb2).mono hb.size)⟩
def bK (ns:List Nd) (id:Int):Int:=(kJ ns id).1.2.1
theorem zIH (A:Option mB) (c:Nat) (ns:List Nd) (id:Int) (w:uA) (h:yB qH w A c ns):iA prog 249 #[.slice A ns.length c,id] w fun e w'=>e=.returned (.int .i64 (bK ns id))/\Below w.heap.size w w':=by
 have HF:=fA (rS A c ns id w h)
 unfold bK
 clear h
 generalize kJ ns id=r at *
 obtain ⟨⟨x1,x2,x3,x4⟩,fd⟩:=r
 simp only at HF ⊢
 go_enter func249,ntmps249
 go_wp2_with (go_at_call 241;refine HF.out.mono ?_;rintro e w1 ⟨rfl,hb1⟩)
 go_ret
 exact ⟨rfl,hb1.alloc hb1.size _⟩
def pN (xs:List Bt) (node now:Int):List Bt :=
 if zGM (node,now)=false then vG xs
 else if kL (bfn (vG xs) node) (vG xs).length then (vG xs).set (dG (bfn (vG xs) node) 0 (vG xs).length) (((vG xs).getD (dG (bfn (vG xs) node) 0 (vG xs).length) (0,0)).1,max ((vG xs).getD (dG (bfn (vG xs) node) 0 (vG xs).length) (0,0)).2 now)
 else (vG xs).take (dG (bfn (vG xs) node) 0 (vG xs).length) ++ [(node,now)] ++ (vG xs).drop (dG (bfn (vG xs) node) 0 (vG xs).length)
theorem zKb (A : Option mB) (c : Nat) (xs : List Bt) (node now : Int) (w : uA) (h : yB zU w A c xs) (hs : xs.length < 1000000) : iA prog 63 #[.slice A xs.length c, node, now] w (mD 173 2 (pN xs node now).length (flat zU (pN xs node now)) w) := by
 have hmx:=h.max
 have hfl:=zEz xs
 have HFA:jC (iA prog 130 #[.slice A xs.length c] w (mD 173 2 (vG xs).length (flat zU (vG xs)) w)):=fA (zFR A c xs w h)
 have HFI:jC (∀ (W:uA) (A:Option mB) (c:Nat),yB zU W A c (vG xs) -> iA prog 132 #[.slice A (vG xs).length c,node] W fun e w'=>e=.returned (.tuple #[.int .i64 (iT (bfn (vG xs) node) (vG xs).length),.bool (kL (bfn (vG xs) node) (vG xs).length)])/\Below W.heap.size W w'):=fA fun W A c h=>zLR A c (vG xs) node W h
 have HMA:=fA (fun W=>zIq node now W)
 unfold pN
 clear h
 generalize vG xs=ys at *
 generalize zGM (node,now)=bo at *
 cases bo with
 | false =>
  rw [if_pos rfl]
  go_enter func63,ntmps63
  go_wp2_with (first
   | (go_at_call 130;refine HFA.out.mono ?_;rintro e w1 ⟨A1,c1,rfl,own1,hb1⟩;have gX:=rB w1 (.cells #[node,now] 173);have hal:=wA w1 (.cells #[node,now] 173))
   | (go_at_call 131;refine (HMA.out _).mono ?_;rintro e w2 ⟨rfl,hb2⟩;have hb12:=hal.trans (hb2.mono hal.size)))
  go_ret
  exact ⟨A1,c1,rfl,jB own1 hb12,hb1.trans (hb12.mono hb1.size)⟩
 | true =>
  rw [if_neg (by decide)]
  have HI:jC (iT (bfn ys node) ys.length=((dG (bfn ys node) 0 ys.length:Nat):Int)):=rfl
  have hle:=(zEm (bfn ys node) 0 ys.length (Nat.zero_le _)).2
  have hltt:kL (bfn ys node) ys.length=true -> dG (bfn ys node) 0 ys.length<ys.length:=fun hB=>by unfold kL at hB;simp at hB;exact hB.1
  rw [HI.out] at HFI
  generalize dG (bfn ys node) 0 ys.length=m at *
  have hm0:(0:Int)<=(m:Int):=by omega
  cases hB:kL (bfn ys node) ys.length with
  | true =>
   rw [hB] at HFI
   rw [if_pos rfl]
   have hm:=hltt hB
   have hm1:(m:Int)<(ys.length:Int):=by omega
   rw [pB,rA hm,yD]
   obtain ⟨x,hx⟩:∃ x,ys[m]'hm=x:=⟨_,rfl⟩
   rw [hx]
   obtain ⟨x1,x2⟩:=x
   have HG:jC (∀ (W:uA) A c,W.ownsRow w.heap.size 173 2 (.slice A ys.length c) ys.length (flat zU ys) -> ∃ g,A=yA ⟨g,0,none⟩/\w.heap.size<=g/\g<W.heap.size/\W.cell? ⟨g,m * 2+1,none⟩=yA (.int .i64 x2)/\W.frozen? ⟨g,m * 2+1,none⟩=false/\jC ((W.setCell ⟨g,m * 2+1,none⟩ (.int .i64 (max x2 now))).ownsRow w.heap.size 173 2 (.slice A ys.length c) ys.length (flat zU (ys.set m (x1,max x2 now))))):=fA fun W A c ho=>by
    obtain ⟨g,rfl⟩:∃ g,A=yA ⟨g,0,none⟩:=by
     obtain ⟨g,c',hv,_⟩:=ho.form (by omega)
     injection hv with e
     exact ⟨g,e⟩
    have hgo:=qC ho g (by simp [zB])
    exact ⟨g,rfl,hgo.1,hgo.2,mH ho (by rw [tK zCt hm (by decide),hx];rfl),mG ho _,fA (zBi zCt ho hm (by decide) (by rw [hx];rfl))⟩
   clear hx hB hltt
   simp only
   go_enter func63,ntmps63
   go_wp2_with (first
    | (go_at_call 130;refine HFA.out.mono ?_;rintro e w1 ⟨A1,c1,rfl,own1,hb1⟩;have f1:=yB.of_own (enc:=zU) own1 (by omega);have gX:=rB w1 (.cells #[node,now] 173);have hal:=wA w1 (.cells #[node,now] 173))
    | (go_at_call 131;refine (HMA.out _).mono ?_;rintro e w2 ⟨rfl,hb2⟩;have hb12:=hal.trans (hb2.mono hal.size);have g2:=kA hb2 gX;obtain ⟨b0,b1,_⟩:=nJ g2)
    | (go_at_call 132;refine (HFI.out _ _ _ (f1.below hb12)).mono ?_;rintro e w3 ⟨rfl,hb3⟩;have hb13:=hb12.trans (hb3.mono hb12.size);have hw3:=hb1.trans (hb13.mono hb1.size);obtain ⟨g,rfl,hg1,hg2,cc,ff,HN⟩:=HG.out _ _ _ (jB own1 hb13);have g3:=kA hb3 g2;obtain ⟨e0,e1,_⟩:=nJ g3;clear own1 f1))
   go_ret
   refine ⟨yA ⟨g,0,none⟩,c1,by rw [lD];rfl,by rw [lD];simpa using HN.out,hw3.setCell (p:=⟨g,m * 2+1,none⟩) hg1 _⟩
  | false =>
   rw [hB] at HFI
   rw [if_neg (by decide)]
   clear hB hltt
   have HIN:jC (∀ (W:uA) (A:Option mB) (c:Nat),w.heap.size<=W.heap.size -> W.ownsRow w.heap.size 173 2 (.slice A ys.length c) ys.length (flat zU ys) -> iA prog 133 #[.slice A ys.length c,(m:Int),.slice (yA ⟨W.heap.size,0,none⟩) 1 1] (W.alloc (.cells #[node,now] 173)) (zDl 173 2 (ys.length+1) ((flat zU ys).take (m * 2) ++ zU (node,now) ++ (flat zU ys).drop (m * 2)) w.heap.size A (W.alloc (.cells #[node,now] 173)))):=fA fun W A c hW ho=>by
    have ha:=wA W (.cells #[node,now] 173)
    have g:=rB W (.cells #[node,now] 173)
    have o2:=jB ho ha
    have n2:W.heap.size ∉ zB A:=fun hc=>by have:=(qC ho _ hc).2;omega
    have l2:=Nat.le_trans hW ha.size
    generalize W.alloc (.cells #[node,now] 173)=W2 at *
    exact zMd w.heap.size c ys.length m W.heap.size A (flat zU ys) (zU (node,now)) W2 l2 o2 g n2 rfl (jF zGN ys) (zGN _) hle (by omega)
   have el:(ys.take m ++ [(node,now)] ++ ys.drop m).length=ys.length+1:=by simp;omega
   have ef:flat zU (ys.take m ++ [(node,now)] ++ ys.drop m)=(flat zU ys).take (m * 2) ++ zU (node,now) ++ (flat zU ys).drop (m * 2):=by
    rw [uD,uD,mL zCt,wM zCt];simp [flat]
   have HEL:=fA el
   have HEF:=fA ef
   clear el ef
   generalize ys.take m ++ [(node,now)] ++ ys.drop m=zs at *
   go_enter func63,ntmps63
   go_wp2_with (first
    | (go_at_call 130;refine HFA.out.mono ?_;rintro e w1 ⟨A1,c1,rfl,own1,hb1⟩;have f1:=yB.of_own (enc:=zU) own1 (by omega);have gX:=rB w1 (.cells #[node,now] 173);have hal:=wA w1 (.cells #[node,now] 173))
    | (go_at_call 131;refine (HMA.out _).mono ?_;rintro e w2 ⟨rfl,hb2⟩;have hb12:=hal.trans (hb2.mono hal.size);have g2:=kA hb2 gX;obtain ⟨b0,b1,_⟩:=nJ g2)
    | (go_at_call 132;refine (HFI.out _ _ _ (f1.below hb12)).mono ?_;rintro e w3 ⟨rfl,hb3⟩;have hb13:=hb12.trans (hb3.mono hb12.size);have hw3:=hb1.trans (hb13.mono hb1.size);have own3:=jB own1 hb13;have g3:=kA hb3 g2;obtain ⟨e0,e1,_⟩:=nJ g3;clear own1 f1)
    | (go_at_call 133;refine (HIN.out w3 _ _ hw3.size own3).mono ?_;rintro e w4 ⟨A4,c4,rfl,own4,ch4,_⟩))
   go_ret
   have ha:=wA w3 (.cells #[node,now] 173)
   have hw3a:=hw3.trans (ha.mono hw3.size)
   refine ⟨A4,c4,by rw [HEL.out];rfl,by rw [HEL.out,HEF.out];exact own4,hw3a.trans (ch4.to_below (fun x hx=>(qC own3 x hx).1) hw3a.size)⟩
def xY (x:Bt) (limit:Int):Int:=wrap64 (x.2+min (max limit 0) 1099511627776)
theorem zPJ (x1 x2 limit:Int) (w:uA):iA prog 204 #[.agg #[x1,x2],.int .i64 limit] w fun e w'=>e=.returned (.int .i64 (xY (x1,x2) limit))/\Below w.heap.size w w':=by
 have hal:=wA w (.cells #[x1,x2] 173)
 unfold xY
 go_enter func204,ntmps204
 go_wp2
 go_ret
 exact ⟨rfl,hal⟩
def zIg (ns:List Nd) (alive:List Int) (id:Int):Bool := !(kJ ns id).2 || (decide ((kJ ns id).1.2.2.2=0) || !ctn alive id)
def zAy (hs:List Int) (ns:List Nd) (alive:List Int):List Int:=nE (zIg ns alive) hs
theorem zMb (B C : Nat) (N : Option mB) (nc : Nat) (ns : List Nd) (A : Option mB) (c : Nat) (alive : List Int) (W0 w : uA) (kn : yB qH W0 N nc ns) (h : yB kG W0 A c alive) (hl : B < W0.heap.size) (hB : W0.cell? ⟨B, 0, none⟩ = yA (.slice N ns.length nc)) (hl2 : C < W0.heap.size) (hC : W0.cell? ⟨C, 0, none⟩ = yA (.slice A alive.length c)) (hb : Below W0.heap.size W0 w) : xQ W0.heap.size 317 #[(B,0), (C,0)] (fun x : Int => dD .i64 x) (zIg ns alive) w := by
 intro W x hW
 have h0:=hb.trans hW
 have hBW:=((bcell h0).1 B 0 hl).trans hB
 have hCW:=((bcell h0).1 C 0 hl2).trans hC
 have hlC:=tA hl2 h0.size
 have HF:=fA (rS N nc ns x W (kn.below h0))
 have HCT:jC (∀ W',Below W.heap.size W W' -> iA prog 68 #[.slice A alive.length c,x] W' fun e w'=>e=.returned (.bool (ctn alive x))/\w'=W'):=fA fun W' hb'=>pQ A c alive x W' ((h.below h0).below hb')
 show iA prog 317 #[x,.pointer (yA ⟨B,0,none⟩),.pointer (yA ⟨C,0,none⟩)] W fun e w'=>e=.returned (.bool (zIg ns alive x))/\Below W.heap.size W w'
 unfold zIg
 generalize kJ ns x=r at *
 generalize ctn alive x=al at *
 obtain ⟨⟨x1,x2,x3,x4⟩,fd⟩:=r
 simp only at HF ⊢
 clear h kn hB hC hW h0 hb
 have arm1:True:=trivial
 cases fd with
 | false =>
  go_enter func317,ntmps317
  go_wp2_with (go_at_call 241;refine HF.out.mono ?_;rintro e w1 ⟨rfl,hb1⟩)
  go_ret
  exact ⟨rfl,hb1.alloc hb1.size _⟩
 | true =>
  by_cases h4:x4=0
  ·subst h4
   go_enter func317,ntmps317
   go_wp2_with (go_at_call 241;refine HF.out.mono ?_;rintro e w1 ⟨rfl,hb1⟩)
   go_ret
   exact ⟨bC (by simp),hb1.alloc hb1.size _⟩
  ·go_enter func317,ntmps317
   go_wp2_with (first
    | (go_at_call 241;refine HF.out.mono ?_;rintro e w1 ⟨rfl,hb1⟩;have hC1:=((bcell hb1).1 C 0 hlC).trans hCW;have hlC1:=tA hlC hb1.size)
    | (go_at_call 68;refine (HCT.out _ (hb1.alloc hb1.size _)).mono ?_;rintro e w2 ⟨rfl,hx⟩;subst hx))
   go_ret
   exact ⟨bC (by simp [h4]),hb1.alloc hb1.size _⟩
theorem zOk (x1 x2 x3:Int) (a:Option mB) (cc:Nat) (hs:List Int) (N:Option mB) (nc:Nat) (ns:List Nd) (A:Option mB) (c:Nat) (alive:List Int) (w:uA) (h:yB kG w a cc hs) (k:yB kG w A c alive) (kn:yB qH w N nc ns):iA prog 248 #[.agg #[x1,x2,.int .u32 x3,.slice a hs.length cc],.slice N ns.length nc,.slice A alive.length c] w (mD 3 1 (zAy hs ns alive).length (flat kG (zAy hs ns alive)) w):=by
 have hmx:=h.max
 obtain ⟨W,hW⟩:∃ W,W=((w.alloc (.cells #[x1,x2,.int .u32 x3,.slice a hs.length cc] 65)).alloc (.cells #[.slice N ns.length nc] 47)).alloc (.cells #[.slice A alive.length c] 63):=⟨_,rfl⟩
 have hb:Below w.heap.size w W:=by rw [hW];exact (yI w _ _).alloc (yI w _ _).size _
 obtain ⟨⟨g1,g2,g3⟩,_,_⟩:=zGH w (.cells #[x1,x2,.int .u32 x3,.slice a hs.length cc] 65) (.cells #[.slice N ns.length nc] 47) (.cells #[.slice A alive.length c] 63)
 rw [<- hW] at g1 g2 g3
 obtain ⟨c0,c1,c2,c3,_,_,_,_,clt⟩:=nH g1
 have HCL:=fA (jT a cc hs.length (flat kG hs) W (h.row.below hb) h.none_ (jD dN _) (jF cV _) hmx)
 have HDF:jC (∀ (w1:uA) (A1:Option mB) (c1:Nat),Below W.heap.size W w1 -> w1.ownsRow W.heap.size 3 1 (.slice A1 hs.length c1) hs.length (flat kG hs) -> iA prog 57 #[.slice A1 hs.length c1,.func (.func 317) #[] #[.pointer (yA ⟨w.heap.size+1,0,none⟩),.pointer (yA ⟨w.heap.size+1+1,0,none⟩)]] w1 (wY kG W.heap.size 3 1 A1 c1 (zAy hs ns alive) w1)):=fA fun w1 A1 c1 hb1 ho=>jV A1 c1 hs W.heap.size 317 #[.pointer (yA ⟨w.heap.size+1,0,none⟩),.pointer (yA ⟨w.heap.size+1+1,0,none⟩)] (yE func317 (by kernel_rfl) rfl) (zIg ns alive) w1 hb1.size ho hmx (zMb (w.heap.size+1) (w.heap.size+1+1) N nc ns A c alive W w1 (kn.below hb) (k.below hb) (eB g2) (jA g2 0) (eB g3) (jA g3 0) hb1)
 have HW:=fA hW
 clear h k kn g1 g2 g3 hW
 generalize zAy hs ns alive=ys at *
 go_enter func248,ntmps248
 go_wp2_with (first
  | (go_at_call 121;rw [<- HW.out];refine HCL.out.mono ?_;rintro e w1 ⟨A1,c1',rfl,own1,hb1⟩)
  | (go_at_call 57;refine (HDF.out _ _ _ hb1 own1).mono ?_;rintro e w2 ⟨rfl,own2,hb2⟩))
 go_ret
 exact ⟨A1,c1',rfl,oC own2 hb.size,hb.trans ((hb1.trans hb2).mono hb.size)⟩
def zRW (ns:List Nd) (l:List (Int × Value)) (id:Int):List (Int × Value):=if (kJ ns id).2 then (bK ns id,.bool true) :: l else l
def zHv (ns:List Nd) (ids:List Int):List (Int × Value):=ids.foldl (zRW ns) []
theorem zIN (ns:List Nd) (ids:List Int) {k:Nat} (hk:k<ids.length):zHv ns (ids.take (k+1))=zRW ns (zHv ns (ids.take k)) (ids[k]'hk):=by
 unfold zHv
 rw [List.take_succ_eq_append_getElem hk,List.foldl_append]
 rfl
theorem zGj:∀ (l:Int) (xs:List Nd),jH l xs=true -> ∀ x ∈ xs,1<=x.2.1/\x.2.1<=8
 | _,[],_,x,h=>by cases h
 | l, y :: ys, h, x, hx => by
  unfold jH at h
  simp only [kC] at h
  rcases List.mem_cons.mp hx with rfl | hx
  ·have:=h.1.1
   unfold fZ btw at this
   simp only [kC,decide_eq_true_eq] at this
   omega
  ·exact zGj _ ys h.2 x hx
theorem zMI (ns:List Nd) (id:Int):0<=bK ns id/\bK ns id<=8:=by
 have hf:∀ y ∈ tD ns,1<=y.2.1/\y.2.1<=8:=by
  unfold tD
  split
  ·exact zGj 0 ns (by assumption)
  ·intro y h;cases h
 unfold bK kJ
 generalize tD ns=l at *
 split
 ·by_cases hk:dG (nfn l id) 0 l.length<l.length
  ·rw [pB,rA hk,yD]
   have:=hf _ (List.getElem_mem hk)
   exact ⟨Int.le_trans (by decide) this.1,this.2⟩
  ·rw [pB,List.getElem?_eq_none (by omega),Option.getD_none]
   simp
 ·simp
theorem zDf (ns:List Nd) (id:Int):(Lit.int .i64 (bK ns id)).wf=true:=by
 have:=zMI ns id
 have hm:IntKind.i64.min=-9223372036854775808:=by decide
 simp [Lit.wf,hm]
 omega
def RetIM (l:List (Int × Value)) (w:uA) (e:Ending) (w':uA):Prop:=∃ M n,e=.returned (.map (yA M))/\uH w' M n l/\w.heap.size<=M/\Below w.heap.size w w'
theorem zKI (A : Option mB) (c : Nat) (ns : List Nd) (B : Option mB) (d : Nat) (ids : List Int) (w : uA) (h : yB qH w A c ns) (hd : yB kG w B d ids) : iA prog 205 #[.slice A ns.length c, .slice B ids.length d] w (RetIM (zHv ns ids) w) := by
 have HF:jC (∀ t W,Below w.heap.size w W -> iA prog 241 #[.slice A ns.length c,.int .i64 t] W fun e w'=>e=.returned (.tuple #[.agg #[.int .i64 (kJ ns t).1.1,.int .i64 (kJ ns t).1.2.1,.int .i64 (kJ ns t).1.2.2.1,.int .i64 (kJ ns t).1.2.2.2],.bool (kJ ns t).2])/\Below W.heap.size W w'):=fA fun t W hb=>rS A c ns t W (h.below hb)
 have HD:=fA hd
 have hmx:=hd.max
 have hm0:=fA (uH.made w)
 have hb0:=wA w (.map #[] 0)
 have hsz:(w.alloc (.map #[] 0)).heap.size=w.heap.size+1:=by simp
 clear h hd
 have hmm:=@run_makeMap prog
 go_enter func205,ntmps205
 go_wp2
 go_loopw [7,8,9,13] (fun v7 v8 v9 i wr=>∃ (k n:Nat),k<=ids.length/\i=.int .i64 (k:Int)/\n<=k/\jC (uH wr w.heap.size n (zHv ns (ids.take k)))/\Below w.heap.size w wr) (fun _ _ _ i _=>ids.length - (intOf i).toNat)
 case atStart=>exact ⟨0,0,by omega,rfl,by omega,hm0,hb0⟩
 case round =>
  clear hb0 hm0
  obtain ⟨k,n,hk,rfl,hn,HM,hw⟩:=hrel
  have hk0:(0:Int)<=(k:Int):=by omega
  by_cases hlt:k<ids.length
  ·have hk1:(k:Int)<(ids.length:Int):=by omega
   have HS:=fA (zIN ns ids hlt)
   obtain ⟨b,off,rfl,blt,c0⟩:=uJ (HD.out.below hw) hlt
   generalize (ids[k]'hlt)=x at *
   have HFX:=fA (fun W hb=>HF.out x W hb)
   have hwf:=zDf ns x
   have HRK:jC (bK ns x=(kJ ns x).1.2.1):=fA rfl
   have HST:jC (∀ l,zRW ns l x=if (kJ ns x).2 then (bK ns x,.bool true) :: l else l):=fA fun l=>rfl
   generalize bK ns x=rk at *
   generalize kJ ns x=r at *
   obtain ⟨⟨x1,x2,x3,x4⟩,fd⟩:=r
   simp only at HFX HST HRK
   have HRK:=HRK.out
   subst HRK
   go_upto_region 6 with (go_at_call 241;refine (HFX.out _ hw).mono ?_;rintro e w3 ⟨rfl,hb3⟩;have hal3:=wA w3 (.cells #[x1,rk,x3,x4] 207);have gB:=rB w3 (.cells #[x1,rk,x3,x4] 207))
   have hw3:=hw.trans ((hb3.trans (hal3.mono hb3.size)).mono hw.size)
   have e1:(w3.alloc (.cells #[x1,rk,x3,x4] 207)).cell? ⟨w3.heap.size,1,none⟩=yA (.int .i64 rk):=jA gB 1
   have ef:(w3.alloc (.cells #[x1,rk,x3,x4] 207)).frozen? ⟨w3.heap.size,1,none⟩=false:=qB gB 1
   have hM3:=fA ((HM.out.below hb3).alloc (.cells #[x1,rk,x3,x4] 207))
   have hBt:=eB gB
   generalize w3.alloc (.cells #[x1,rk,x3,x4] 207)=W3 at *
   cases fd with
   | true =>
    simp only [if_true] at HST
    go_wp2_with (refine yW rfl 153 4 (.tmp 24) (.tmp 26) (.const (.bool true)) (by rfl) zO (by rfl) (by rfl) (by rfl) hM3.out hwf (by unfold maxLen;omega) ?_;intro w4 hm4 hc4)
    go_roundw
    case rel=>exact ⟨k+1,n+1,by omega,by go_num,by omega,fA (by rw [HS.out,HST.out];exact hm4),hw3.trans (hc4.to_below (by simp) hw3.size)⟩
    case measure=>simp [intOf];omega
   | false =>
    simp only [uG,if_false] at HST
    go_wp2
    go_roundw
    case rel=>exact ⟨k+1,n,by omega,by go_num,by omega,fA (by rw [HS.out,HST.out];exact hM3.out),hw3⟩
    case measure=>simp [intOf];omega
  have hk1:¬ (k:Int)<(ids.length:Int):=by omega
  have hke:k=ids.length:=by omega
  subst hke
  rw [zC (mA _)] at HM
  go_wp2
  go_ret
  exact ⟨w.heap.size,n,rfl,HM.out,mA _,hw⟩
def zBk (ns:List Nd) (ids:List Int):Int:=Maps.size (zKv (zHv ns ids))
theorem zEY (A : Option mB) (c : Nat) (ns : List Nd) (B : Option mB) (d : Nat) (ids : List Int) (w : uA) (h : yB qH w A c ns) (hd : yB kG w B d ids) : iA prog 324 #[.slice A ns.length c, .slice B ids.length d] w (fun e w' => e = .returned (.int .i64 (zBk ns ids)) /\ Below w.heap.size w w') := by
 unfold zBk
 have HF:jC (∀ t W,Below w.heap.size w W -> iA prog 241 #[.slice A ns.length c,.int .i64 t] W fun e w'=>e=.returned (.tuple #[.agg #[.int .i64 (kJ ns t).1.1,.int .i64 (kJ ns t).1.2.1,.int .i64 (kJ ns t).1.2.2.1,.int .i64 (kJ ns t).1.2.2.2],.bool (kJ ns t).2])/\Below W.heap.size W w'):=fA fun t W hb=>rS A c ns t W (h.below hb)
 have HD:=fA hd
 have hmx:=hd.max
 have hm0:=fA (uH.made w)
 have hb0:=wA w (.map #[] 0)
 have hsz:(w.alloc (.map #[] 0)).heap.size=w.heap.size+1:=by simp
 clear h hd
 have hmm:=@run_makeMap prog
 go_enter func324,ntmps324
 go_wp2
 go_loopw [7,8,9,13] (fun v7 v8 v9 i wr=>∃ (k n:Nat),k<=ids.length/\i=.int .i64 (k:Int)/\n<=k/\jC (uH wr w.heap.size n (zHv ns (ids.take k)))/\Below w.heap.size w wr) (fun _ _ _ i _=>ids.length - (intOf i).toNat)
 case atStart=>exact ⟨0,0,by omega,rfl,by omega,hm0,hb0⟩
 case round =>
  clear hb0 hm0
  obtain ⟨k,n,hk,rfl,hn,HM,hw⟩:=hrel
  have hk0:(0:Int)<=(k:Int):=by omega
  by_cases hlt:k<ids.length
  ·have hk1:(k:Int)<(ids.length:Int):=by omega
   have HS:=fA (zIN ns ids hlt)
   obtain ⟨b,off,rfl,blt,c0⟩:=uJ (HD.out.below hw) hlt
   generalize (ids[k]'hlt)=x at *
   have HFX:=fA (fun W hb=>HF.out x W hb)
   have hwf:=zDf ns x
   have HRK:jC (bK ns x=(kJ ns x).1.2.1):=fA rfl
   have HST:jC (∀ l,zRW ns l x=if (kJ ns x).2 then (bK ns x,.bool true) :: l else l):=fA fun l=>rfl
   generalize bK ns x=rk at *
   generalize kJ ns x=r at *
   obtain ⟨⟨x1,x2,x3,x4⟩,fd⟩:=r
   simp only at HFX HST HRK
   have HRK:=HRK.out
   subst HRK
   go_upto_region 6 with (go_at_call 241;refine (HFX.out _ hw).mono ?_;rintro e w3 ⟨rfl,hb3⟩;have hal3:=wA w3 (.cells #[x1,rk,x3,x4] 207);have gB:=rB w3 (.cells #[x1,rk,x3,x4] 207))
   have hw3:=hw.trans ((hb3.trans (hal3.mono hb3.size)).mono hw.size)
   have e1:(w3.alloc (.cells #[x1,rk,x3,x4] 207)).cell? ⟨w3.heap.size,1,none⟩=yA (.int .i64 rk):=jA gB 1
   have ef:(w3.alloc (.cells #[x1,rk,x3,x4] 207)).frozen? ⟨w3.heap.size,1,none⟩=false:=qB gB 1
   have hM3:=fA ((HM.out.below hb3).alloc (.cells #[x1,rk,x3,x4] 207))
   have hBt:=eB gB
   generalize w3.alloc (.cells #[x1,rk,x3,x4] 207)=W3 at *
   cases fd with
   | true =>
    simp only [if_true] at HST
    go_wp2_with (refine yW rfl 153 4 (.tmp 24) (.tmp 26) (.const (.bool true)) (by rfl) zO (by rfl) (by rfl) (by rfl) hM3.out hwf (by unfold maxLen;omega) ?_;intro w4 hm4 hc4)
    go_roundw
    case rel=>exact ⟨k+1,n+1,by omega,by go_num,by omega,fA (by rw [HS.out,HST.out];exact hm4),hw3.trans (hc4.to_below (by simp) hw3.size)⟩
    case measure=>simp [intOf];omega
   | false =>
    simp only [uG,if_false] at HST
    go_wp2
    go_roundw
    case rel=>exact ⟨k+1,n,by omega,by go_num,by omega,fA (by rw [HS.out,HST.out];exact hM3.out),hw3⟩
    case measure=>simp [intOf];omega
  have hk1:¬ (k:Int)<(ids.length:Int):=by omega
  have hke:k=ids.length:=by omega
  subst hke
  rw [zC (mA _)] at HM
  have hln:=World.ownsMap.len HM.out zO 3
  go_wp2
  go_ret
  exact ⟨rfl,hw⟩
end Go.Proofs.YtogbpifcmhafkaaGreat
