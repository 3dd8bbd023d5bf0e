/-
 Part PZC of the proof.
-/
import Derived.Test.YtogbpifcmhafkaaGreatPZA
import Derived.Test.YtogbpifcmhafkaaGreatPC
import Derived.Sort.Grow
open Bool renaming eq_iff_iff->mT
open Go renaming Addr->mB,Calls->iA,Value->uB,World->uA
open Go.Calls renaming quiet_of_same->uF
open Go.Lib renaming hid->fA
open Go.Proofs renaming enters_of->yE
open Go.RowKit renaming Hid->jC
open Go.Sort renaming grow->mU
open Go.Value renaming agg->vE
open Go.World renaming ownsRow_nil->nB
open List renaming length_append->kB,mem_append->xD
open Nat renaming le_refl->mA,le_trans->pA,lt_of_lt_of_le->tA
open Option renaming some->yA
namespace Go.Proofs.YtogbpifcmhafkaaGreat
open Go.RowKit Tryz
open Go.Lib(hid)
set_option linter.unusedVariables false
set_option linter.unusedSimpArgs false
set_option maxRecDepth 100000
set_option maxHeartbeats 16000000
theorem zNe (base N:Nat) (t:Int) (w:uA) (hN:N<base) (hl:N<w.heap.size) (hc:w.cell? ⟨N,0,none⟩=yA (.int .i64 t)):xQ base 359 #[(N,0)] (fun x:Int=>Value.int .i64 x) (fun x=>decide (x=t)) w:=by
 intro W x hW
 have hcW:=((bcell hW).1 N 0 hN).trans hc
 have hlW:=tA hl hW.size
 show iA prog 359 #[x,.pointer (yA ⟨N,0,none⟩)] W fun e w'=>e=.returned (.bool (decide (x=t)))/\Below W.heap.size W w'
 go_enter func359,ntmps359
 go_wp2
 go_ret
 exact ⟨bC (by rw [mT];simp),xC _⟩
def zAA (h:List Int) (from_ to_:Int):List Int:=wN (nE (fun x=>decide (x=from_)) h ++ [to_])
theorem zNg (h:List Int) (a b:Int):(zAA h a b).length<=h.length+1:=by
 unfold zAA
 rw [sR _,kB]
 have:=wJ (fun x=>decide (x=a)) h
 simp
 omega
theorem zNf (A:Option mB) (c:Nat) (hs:List Int) (f t:Int) (w:uA) (h:yB kG w A c hs) (hl:hs.length<=1000):iA prog 325 #[.slice A hs.length c,f,t] w (mD 3 1 (zAA hs f t).length (flat kG (zAA hs f t)) w):=by
 have hmx:=h.max
 obtain ⟨W,hW⟩:∃ W,W=w.alloc (.cells #[f] 3):=⟨_,rfl⟩
 have hb:Below w.heap.size w W:=by rw [hW];exact wA _ _
 have g1:W.heap[w.heap.size]?=yA (.cells #[f] 3):=by rw [hW];exact rB _ _
 have HCL:jC (∀ W',Below w.heap.size w W' -> iA prog 121 #[.slice A hs.length c] W' (mD 3 1 hs.length (flat kG hs) W')):=fA fun W' hb=>jT A c hs.length (flat kG hs) W' (h.row.below hb) h.none_ (jD dN hs) (jF cV hs) hmx
 have HDF:jC (∀ (w1:uA) (A1:Option mB) (c1:Nat),Below W.heap.size W w1 -> w1.ownsRow W.heap.size 3 1 (.slice A1 hs.length c1) hs.length (flat kG hs) -> iA prog 57 #[.slice A1 hs.length c1,.func (.func 359) #[] #[.pointer (yA ⟨w.heap.size,0,none⟩)]] w1 (wY kG W.heap.size 3 1 A1 c1 (nE (fun x=>decide (x=f)) hs) w1)):=fA fun w1 A1 c1 hb1 ho=>jV A1 c1 hs W.heap.size 359 #[.pointer (yA ⟨w.heap.size,0,none⟩)] (yE func359 (by kernel_rfl) rfl) (fun x=>decide (x=f)) w1 hb1.size ho hmx (zNe W.heap.size w.heap.size f w1 (eB g1) (tA (eB g1) hb1.size) (((bcell hb1).1 w.heap.size 0 (eB g1)).trans (jA g1 0)))
 have HSL:jC (∀ ys:List Int,(wN ys).length=ys.length):=fA fun ys=>sR _
 have HSO:jC (∀ (ys:List Int) base A1 c1 W',0<ys.length -> ys.length<=1000000 -> W'.ownsRow base 3 1 (.slice A1 ys.length c1) ys.length (flat kG ys) -> iA prog 139 #[.slice A1 ys.length c1] W' fun e w'=>e=.returned (.tuple #[])/\w'.ownsRow base 3 1 (.slice A1 ys.length c1) ys.length (flat kG (wN ys))/\Below base W' w'):=fA fun ys base A1 c1 W' h0 hm ho=>by rw [uO];rw [uO] at ho;exact zBn base A1 c1 ys W' ho h0 hm
 have hkl:=wJ (fun x=>decide (x=f)) hs
 have HW:=fA hW
 unfold zAA
 rw [HSL.out]
 clear h g1 hW
 generalize nE (fun x=>decide (x=f)) hs=ys at *
 have HA:jC ((ys ++ [t]).length=ys.length+1):=fA (by simp)
 have HS2:=fA (HSO.out (ys ++ [t]))
 have HFA:jC (flat kG ys ++ [.int .i64 t]=flat kG (ys ++ [t])):=fA (by rw [uD];rfl)
 rw [HA.out] at HS2
 rw [HA.out]
 generalize ys ++ [t]=zs at *
 go_enter func325,ntmps325
 go_wp2_with (first
  | (go_at_call 121;rw [<- HW.out];refine (HCL.out _ hb).mono ?_;rintro e w2 ⟨A2,c2,rfl,own2,hb2⟩)
  | (go_at_call 57;refine (HDF.out w2 A2 c2 hb2 own2).mono ?_;rintro e w3 ⟨rfl,own3,hb3⟩;have hw3:=hb.trans ((hb2.trans hb3).mono hb.size))
  | (at_builtin;refine yC rfl (.tmp 11) (.tmp 13) rfl tN W.heap.size (.slice A2 ys.length c2) ys.length _ (by rfl) (jB own3 (wA w3 _)) (yA ⟨w3.heap.size,0,none⟩) 1 1 [.int .i64 t] (by rfl) rfl (dC.new w3 _ _) (by simp [Value.oneCell']) (by unfold maxLen;omega) (by omega) (pA hb2.size (pA hb3.size (wA w3 _).size)) (fun h=>by cases h) ?_;intro a1 c1 w4 hown hg hat;have hb4:=Below.appended (hw3.trans ((wA w3 (.cells #[t] 3)).mono hw3.size)) (jB own3 (wA w3 (.cells #[t] 3))) hg (pA hw3.size (wA w3 (.cells #[t] 3)).size) hb.size;rw [HFA.out] at hown)
  | (go_at_call 139;refine (HS2.out W.heap.size a1 c1 w4 (by omega) (by omega) hown).mono ?_;rintro e w5 ⟨rfl,own5,hb5⟩))
 go_ret
 exact ⟨a1,c1,rfl,oC own5 hb.size,hb4.trans (hb5.mono hb.size)⟩
abbrev qN (a b c:Int) (A:Option mB) (n cc:Nat):Obj:=.cells #[a,b,.int .u32 c,.slice A n cc] 65
def zAw (hs:List Int) (ns:List Nd) (f t:Int):Bool:=ctn hs f && !ctn hs t && decide (zBk ns hs<=zBk ns (zAA hs f t))
theorem zOf (x1 x2 x3:Int) (A:Option mB) (c:Nat) (hs:List Int) (B:Option mB) (d:Nat) (ns:List Nd) (f t:Int) (w:uA) (h:yB kG w A c hs) (h2:yB qH w B d ns) (hl:hs.length<=1000):iA prog 256 #[.agg #[x1,x2,.int .u32 x3,.slice A hs.length c],.slice B ns.length d,.int .i64 f,.int .i64 t] w fun e w'=>e=.returned (.bool (zAw hs ns f t))/\Below w.heap.size w w':=by
 have hal:=wA w (qN x1 x2 x3 A hs.length c)
 have gX:=rB w (qN x1 x2 x3 A hs.length c)
 have HC:jC (∀ v W,Below w.heap.size w W -> iA prog 68 #[.slice A hs.length c,.int .i64 v] W fun e w'=>e=.returned (.bool (ctn hs v))/\w'=W):=fA fun v W hb=>pQ A c hs v W (h.below hb)
 have HC1:=fA (HC.out f)
 have HC2:=fA (HC.out t)
 have HS:jC (∀ W,Below w.heap.size w W -> iA prog 325 #[.slice A hs.length c,f,t] W (mD 3 1 (zAA hs f t).length (flat kG (zAA hs f t)) W)):=fA fun W hb=>zNf A c hs f t W (h.below hb) hl
 have HR1:jC (∀ W,Below w.heap.size w W -> iA prog 324 #[.slice B ns.length d,.slice A hs.length c] W (fun e w'=>e=.returned (.int .i64 (zBk ns hs))/\Below W.heap.size W w')):=fA fun W hb=>zEY B d ns A c hs W (h2.below hb) (h.below hb)
 have HR2:jC (∀ W D e,Below w.heap.size w W -> yB kG W D e (zAA hs f t) -> iA prog 324 #[.slice B ns.length d,.slice D (zAA hs f t).length e] W (fun e w'=>e=.returned (.int .i64 (zBk ns (zAA hs f t)))/\Below W.heap.size W w')):=fA fun W D e hb f=>zEY B d ns D e _ W (h2.below hb) f
 have hsl:=zNg hs f t
 unfold zAw
 clear h h2 HC
 generalize zAA hs f t=ys at *
 generalize zBk ns ys=r2 at *
 generalize zBk ns hs=r1 at *
 generalize ctn hs f=b1 at *
 generalize ctn hs t=b2 at *
 cases b1 with
 | false =>
  go_enter func256,ntmps256
  go_wp2_with fail
  have e3:(w.alloc (qN x1 x2 x3 A hs.length c)).cell? ⟨w.heap.size,3,none⟩=yA (.slice A hs.length c):=jA gX 3
  go_quiet ((go_at_call 68;exact uF (HC1.out _ (Below.many hal _))))
  go_wp2
  go_ret
  exact ⟨bC (by simp),Below.many hal _⟩
 | true =>
 cases b2 with
 | true =>
  go_enter func256,ntmps256
  go_wp2_with fail
  have e3:(w.alloc (qN x1 x2 x3 A hs.length c)).cell? ⟨w.heap.size,3,none⟩=yA (.slice A hs.length c):=jA gX 3
  go_quiet (first | (go_at_call 68;exact uF (HC1.out _ (Below.many hal _))) | (go_at_call 68;exact uF (HC2.out _ (Below.many hal _))))
  go_wp2
  go_ret
  exact ⟨bC (by simp),Below.many hal _⟩
 | false =>
  go_enter func256,ntmps256
  go_wp2_with fail
  go_region_held3 (fun W=>W.cell? ⟨w.heap.size,3,none⟩=yA (.slice A hs.length c)) (first | exact (jA gX 3) | exact m3 | exact n3 | exact o3) (first
   | ((go_at_call 68;(with_reducible refine (HC1.out _ hal.drew).mono ?_);rintro e wx ⟨rfl,hx⟩;subst hx))
   | ((go_at_call 68;(with_reducible refine (HC2.out _ hal.drew).mono ?_);rintro e wx ⟨rfl,hx⟩;subst hx))
   | ((go_at_call 325;(with_reducible refine (HS.out _ hal.drew).mono ?_);rintro e w2 ⟨A2,c2,rfl,own2,hb2⟩;have b2:=hal.drew.trans (hb2.mono hal.size);have g2:=kA hb2 (iB gX);have m3:w2.cell? ⟨w.heap.size,3,none⟩=yA (.slice A hs.length c):=jA g2 3;have f2:=yB.of_own (enc:=kG) own2 (by omega)))
   | ((go_at_call 324;(with_reducible refine (HR2.out _ _ _ b2 f2).mono ?_);rintro e w3 ⟨rfl,hb3⟩;have b3:=b2.trans (hb3.mono b2.size);have g3:=kA hb3 g2;have n3:w3.cell? ⟨w.heap.size,3,none⟩=yA (.slice A hs.length c):=jA g3 3))
   | ((go_at_call 324;(with_reducible refine (HR1.out _ b3).mono ?_);rintro e w4 ⟨rfl,hb4⟩;have b4:=b3.trans (hb4.mono b3.size);have g4:=kA hb4 g3;have o3:w4.cell? ⟨w.heap.size,3,none⟩=yA (.slice A hs.length c):=jA g4 3)))
  go_wp2
  go_ret
  exact ⟨bC (by simp),b4⟩
structure Mo (w w':uA):Prop where
 below:Below w.heap.size w w'
 drawn:w.drawn<=w'.drawn
theorem Mo.refl (w:uA):Mo w w:=⟨xC w,mA _⟩
theorem Mo.trans {a b c:uA} (h:Mo a b) (k:Mo b c):Mo a c:=⟨h.below.trans (k.below.mono h.below.size),pA h.drawn k.drawn⟩
theorem Mo.alloc {a b:uA} (h:Mo a b) (o:Obj):Mo a (b.alloc o):=⟨h.below.alloc h.below.size o,h.drawn⟩
theorem Mo.drew {a b:uA} (h:Mo a b):Mo a b.drew:=⟨h.below.drew,Nat.le_succ_of_le h.drawn⟩
theorem Mo.grow {w w':uA} (h:Mo w w'):∃ q os,w'=mU (w.drewN q) os:=by
 refine ⟨w'.drawn - w.drawn,w'.heap.extract w.heap.size w'.heap.size,?_⟩
 obtain ⟨⟨h1,h2,h3,h4,h5⟩,h6⟩:=h
 obtain ⟨hp,tp,dr,os,out⟩:=w
 obtain ⟨hp',tp',dr',os',out'⟩:=w'
 simp only at h1 h2 h3 h4 h5 h6
 subst h1 h2 h3
 unfold mU World.drewN
 simp only [World.mk.injEq,true_and,and_true]
 refine ⟨?_,by omega⟩
 apply Array.ext_getElem?
 intro i
 by_cases hi:i<hp.size
 ·rw [Array.getElem?_append_left hi];exact h5 i hi
 ·rw [Array.getElem?_append_right (by omega),Array.getElem?_extract]
  split
  ·rw [show hp.size+(i - hp.size)=i by omega]
  ·rw [Array.getElem?_eq_none (by omega)]
def zQX {α:Type} (g:Nat) (lb:Array uB) (enc:α -> uB) (p:α -> Bool) (w:uA):Prop :=
 ∀ (W:uA) (x:α),Below w.heap.size w W -> iA prog g (#[enc x] ++ lb) W fun e w'=>e=.returned (.bool (p x))/\Mo W w'
theorem zKg (A : Option mB) (c : Nat) (xs : List Ld) (g : Nat) (lb : Array uB) (eg : ∀ args w, (callFunc g args).run prog w = .ok (.enter g args) w) (p : Ld -> Bool) (w : uA) (h : yB zV w A c xs) (hp : zQX g lb (fun x : Ld => vE (zV x).toArray) p w) : iA prog 211 #[.slice A xs.length c, .func (.func g) #[] lb] w fun e w' => e = .returned (.int .i64 (bE p xs 0)) /\ Mo w w' := by
 have HI:=fA h
 have HP:=fA hp
 have hmx:=h.max
 have hb0:=Mo.refl w
 have HR0:jC (bE p (xs.drop 0) 0=bE p xs 0):=fA rfl
 clear h hp
 go_enter func211,ntmps211
 go_wp2
 go_loopw [5,8] (fun v i wr=>∃ (k:Nat),k<=xs.length/\i=.int .i64 (k:Int)/\jC (bE p (xs.drop k) k=bE p xs 0)/\Mo w wr) (fun _ i _=>xs.length - (intOf i).toNat)
 case atStart=>exact ⟨0,by omega,rfl,HR0,hb0⟩
 case round =>
  clear hb0 HR0
  obtain ⟨k,hk,rfl,HR,hw⟩:=hrel
  have hk0:(0:Int)<=(k:Int):=by omega
  by_cases hlt:k<xs.length
  ·have hk1:(k:Int)<(xs.length:Int):=by omega
   have HS:=fA (iU p xs hlt)
   obtain ⟨b,off,rfl,blt,c0,c1⟩:=zCZ (HI.out.below hw.below) hlt
   generalize (xs[k]'hlt)=x at *
   obtain ⟨x1,x2⟩:=x
   simp only at c0 c1
   have HC:jC (iA prog g (#[.agg #[x1,x2]] ++ lb) wr fun e w'=>e=.returned (.bool (p (x1,x2)))/\Mo wr w'):=fA (HP.out wr (x1,x2) hw.below)
   generalize p (x1,x2)=q at *
   cases q with
   | true =>
    have HZ:jC (bE p xs 0=(k:Int)):=fA (by rw [<- HR.out,HS.out,if_pos rfl])
    go_wp2_with (go_at_fn g;refine HC.out.mono ?_;rintro e w1 ⟨rfl,hb1⟩)
    go_ret
    exact ⟨by rw [HZ.out];rfl,hw.trans hb1⟩
   | false =>
    have HZ:jC (bE p (xs.drop (k+1)) (k+1)=bE p xs 0):=fA (by rw [<- HR.out,HS.out,if_neg (by decide)])
    go_wp2_with (go_at_fn g;refine HC.out.mono ?_;rintro e w1 ⟨rfl,hb1⟩)
    go_roundw
    case rel=>exact ⟨k+1,by omega,by go_num,HZ,hw.trans hb1⟩
    case measure=>simp [intOf];omega
  have hk1:¬ (k:Int)<(xs.length:Int):=by omega
  have HZ:jC (bE p xs 0=-1):=fA (by rw [<- HR.out];exact kR p xs (by omega))
  go_wp2
  go_ret
  exact ⟨by rw [HZ.out];rfl,hw⟩
theorem zKt (C:Nat) (t:Int) (w:uA) (hl:C<w.heap.size) (hc:w.cell? ⟨C,0,none⟩=yA (.int .i64 t)):zQX 212 #[(C,0)] (fun x:Ld=>vE (zV x).toArray) (fun x:Ld=>decide (x.1=t)) w:=by
 rintro W ⟨x1,x2⟩ hW
 have hal:=(Mo.refl W).alloc (.cells #[x1,x2] 202)
 have hcW:=((bcell hW).1 C 0 hl).trans hc
 have hlW:=tA hl hW.size
 show iA prog 212 #[.agg #[x1,x2],.pointer (yA ⟨C,0,none⟩)] W fun e w'=>e=.returned (.bool (decide (x1=t)))/\Mo W w'
 go_enter func212,ntmps212
 go_wp2
 go_ret
 exact ⟨bC (by rw [mT];simp),hal⟩
theorem zGe (A:Option mB) (c:Nat) (xs:List Ld) (node:Int) (w:uA) (h:yB zV w A c xs):iA prog 125 #[.slice A xs.length c,node] w fun e w'=>e=.returned (.int .i64 (kF xs node))/\Mo w w':=by
 have hmx:=h.max
 obtain ⟨W,hW⟩:∃ W,W=w.alloc (.cells #[node] 3):=⟨_,rfl⟩
 have hb:Mo w W:=by rw [hW];exact (Mo.refl w).alloc _
 have hg:W.heap[w.heap.size]?=yA (.cells #[node] 3):=by rw [hW];exact rB _ _
 have HIX:=fA (zKg A c xs 212 #[.pointer (yA ⟨w.heap.size,0,none⟩)] (yE func212 (by kernel_rfl) rfl) (fun x:Ld=>decide (x.1=node)) W (h.below hb.below) (zKt w.heap.size node W (eB hg) (jA hg 0)))
 have HI:=fA h
 have HW:=fA hW
 have hcs:=fM (fun x:Ld=>decide (x.1=node)) xs 0
 unfold kF
 clear h hg hW
 generalize bE (fun x:Ld=>decide (x.1=node)) xs 0=v at *
 rcases hcs with ⟨rfl,_⟩ | ⟨k,hk,hv,_,_⟩
 ·rw [if_pos (by decide)]
  go_enter func125,ntmps125
  go_wp2_with (go_at_call 211;rw [<- HW.out];refine HIX.out.mono ?_;rintro e w1 ⟨rfl,hb1⟩)
  go_ret
  exact ⟨rfl,hb.trans hb1⟩
 ·rw [Nat.zero_add] at hv
  subst hv
  have hk0:(0:Int)<=(k:Int):=by omega
  have hk1:(k:Int)<(xs.length:Int):=by omega
  rw [if_neg (by omega),Int.toNat_natCast,List.getD_eq_getElem?_getD,List.getElem?_eq_getElem hk,Option.getD_some]
  have HC:=fA (fun (W':uA) (hW':Below w.heap.size w W')=>zCZ (HI.out.below hW') hk)
  generalize (xs[k]'hk)=x at *
  obtain ⟨x1,x2⟩:=x
  simp only
  go_enter func125,ntmps125
  go_wp2_with (go_at_call 211;rw [<- HW.out];refine HIX.out.mono ?_;rintro e w1 ⟨rfl,hb1⟩;have hw1:=hb.trans hb1;obtain ⟨b,off,rfl,blt,c0,c1⟩:=HC.out w1 hw1.below)
  go_ret
  exact ⟨rfl,hw1⟩
def zDb:List Int -> Int
 | []=>0
 | x :: xs=>if x=0 then zDb xs else x
theorem zEf (A : Option mB) (c : Nat) (xs : List Int) (w : uA) (h : yB kG w A c xs) : iA prog 253 #[.slice A xs.length c] w fun e w' => e = .returned (.int .i64 (zDb xs)) /\ w' = w := by
 have HI:=fA h
 have hmx:=h.max
 have HR0:jC (zDb (xs.drop 0)=zDb xs):=fA rfl
 have HAT:jC (∀ i (hi:i<xs.length),zDb (xs.drop i)=if (xs[i]'hi)=0 then zDb (xs.drop (i+1)) else (xs[i]'hi)):=fA fun i hi=>by rw [List.drop_eq_getElem_cons hi];rfl
 have HEND:jC (zDb []=0):=fA rfl
 clear h
 go_enter func253,ntmps253
 go_wp2
 go_loopw [5,8] (fun v i wr=>∃ (k:Nat),k<=xs.length/\i=.int .i64 (k:Int)/\jC (zDb (xs.drop k)=zDb xs)/\wr=w) (fun _ i _=>xs.length - (intOf i).toNat)
 case atStart=>exact ⟨0,by omega,rfl,HR0,rfl⟩
 case round =>
  clear HR0
  obtain ⟨k,hk,rfl,HR,rfl⟩:=hrel
  have hk0:(0:Int)<=(k:Int):=by omega
  by_cases hlt:k<xs.length
  ·have hk1:(k:Int)<(xs.length:Int):=by omega
   have HS:=fA (HAT.out k hlt)
   obtain ⟨b,off,rfl,blt,c0⟩:=uJ HI.out hlt
   generalize (xs[k]'hlt)=x at *
   by_cases hx:x=0
   ·subst hx
    go_wp2
    go_roundw
    case rel=>exact ⟨k+1,by omega,by go_num,fA (by rw [<- HR.out,HS.out,if_pos rfl]),by first | rfl | trivial⟩
    case measure=>simp [intOf];omega
   ·go_wp2
    go_ret
    exact ⟨by rw [<- HR.out,HS.out,if_neg hx];rfl,rfl⟩
  have hk1:¬ (k:Int)<(xs.length:Int):=by omega
  have hke:k=xs.length:=by omega
  subst hke
  go_wp2
  go_ret
  exact ⟨by rw [<- HR.out,List.drop_of_length_le (mA _),HEND.out];rfl,rfl⟩
abbrev zPR (a b c d e f:Int):Obj:=.cells #[a,b,c,d,e,f] 99
abbrev rpO (a b c:Int) (d e:Bool):Obj:=.cells #[a,b,.int .u32 c,.bool d,.bool e] 124
theorem zPf (C:Nat) (y1 y2 y3:Int) (a:Option mB) (n cc:Nat) (w:uA) (hl:C<w.heap.size) (hc:w.heap[C]?=yA (qN y1 y2 y3 a n cc)):yR 135 #[(C,0)] (fun x:Rp=>vE (fJ x).toArray) (fun x:Rp=>jX x y1 y2 y3) w:=by
 rintro W ⟨x1,x2,x3,x4,x5⟩ hW
 have hal:=wA W (rpO x1 x2 x3 x4 x5)
 have hcW:=kA hal (kA hW hc)
 obtain ⟨c0,c1,c2,c3,_⟩:=nH hcW
 have hF:=fA (fun W=>zHZ x1 x2 x3 y1 y2 y3 x4 x5 a n cc W)
 show iA prog 135 #[.agg #[x1,x2,.int .u32 x3,.bool x4,.bool x5],.pointer (yA ⟨C,0,none⟩)] W fun e w'=>e=.returned (.bool (jX (x1,x2,x3,x4,x5) y1 y2 y3))/\Below W.heap.size W w'
 generalize jX (x1,x2,x3,x4,x5) y1 y2 y3=r at *
 clear hc hcW hl
 go_enter func135,ntmps135
 go_wp2_with (go_at_call 136;refine (hF.out _).mono ?_;rintro e w1 ⟨rfl,hb1⟩)
 go_ret
 exact ⟨rfl,hal.trans (hb1.mono hal.size)⟩
def zAi (node:Int) (rep:List Rp) (c:Ch):List Cx :=
 if eU (fun x:Rp=>jX x c.1 c.2.1 c.2.2.1) rep && !ctn c.2.2.2 node then [(0,0,5,c.1,node,c.2.1)] else if !eU (fun x:Rp=>jX x c.1 c.2.1 c.2.2.1) rep && ctn c.2.2.2 node then [(0,0,6,c.1,node,0)] else []
def sS (cs:List Ch) (node:Int) (rep:List Rp):List Cx:=if pG cs && (decide (1<=node) && decide (node<=16)) then cs.flatMap (zAi node rep) else []
theorem zKK (node:Int) (rep:List Rp) (c:Ch):(zAi node rep c).length<=1:=by
 unfold zAi
 split
 ·exact mA _
 ·split
  ·exact mA _
  ·exact Nat.zero_le _
theorem zCX {α β:Type} (f:α -> List β) (xs:List α) {k:Nat} (hk:k<xs.length):(xs.take (k+1)).flatMap f=(xs.take k).flatMap f ++ f (xs[k]'hk):=by rw [List.take_succ_eq_append_getElem hk,List.flatMap_append];simp
theorem zMJ (A B : Option mB) (ca cb : Nat) (cs : List Ch) (node : Int) (rep : List Rp) (w : uA) (h : vM w A ca cs) (h2 : yB fJ w B cb rep) : iA prog 65 #[.slice A cs.length ca, node, .slice B rep.length cb] w (mD 99 6 (sS cs node rep).length (flat zEw (sS cs node rep)) w) := by
 have HI:=fA h
 have H2:=fA h2
 have hmx:=h.max
 have HM:=fA (pZ A ca cs w h)
 unfold sS
 clear h h2
 generalize pG cs=m at *
 by_cases hn:node<1
 ·rw [if_neg (by simp;omega)]
  cases m
  all_goals (
   go_enter func65,ntmps65
   go_wp2_with (go_at_call 101;refine HM.out.mono ?_;rintro e w1 ⟨rfl,hb1⟩)
   go_ret
   exact ⟨none,0,rfl,nB _ _ _ _,hb1⟩)
 by_cases hn2:16<node
 ·rw [if_neg (by simp;omega)]
  cases m
  all_goals (
   go_enter func65,ntmps65
   go_wp2_with (go_at_call 101;refine HM.out.mono ?_;rintro e w1 ⟨rfl,hb1⟩)
   go_ret
   exact ⟨none,0,rfl,nB _ _ _ _,hb1⟩)
 cases m with
 | false =>
  rw [if_neg (by simp)]
  go_enter func65,ntmps65
  go_wp2_with (go_at_call 101;refine HM.out.mono ?_;rintro e w1 ⟨rfl,hb1⟩)
  go_ret
  exact ⟨none,0,rfl,nB _ _ _ _,hb1⟩
 | true =>
  rw [if_pos (by simp;omega)]
  obtain ⟨R,hR⟩:∃ R,cs.flatMap (zAi node rep)=R:=⟨_,rfl⟩
  have HRF:=fA hR
  rw [hR]
  clear hR
  go_enter func65,ntmps65
  go_wp2_with (go_at_call 101;refine HM.out.mono ?_;rintro e w1 ⟨rfl,hb1⟩)
  go_loopw [7,9,10,11,25] (fun v7 v9 v10 v11 i wr=>∃ (k n c:Nat) (A1:Option mB),k<=cs.length/\v7=.slice A1 n c/\i=.int .i64 (k:Int)/\n<=k/\jC (wr.ownsRow w.heap.size 99 6 (.slice A1 n c) n (flat zEw ((cs.take k).flatMap (zAi node rep))))/\Below w.heap.size w wr) (fun _ _ _ _ i _=>cs.length - (intOf i).toNat)
  case atStart=>exact ⟨0,0,0,none,by omega,rfl,rfl,by omega,nB _ _ _ _,hb1⟩
  case round =>
   clear hb1
   obtain ⟨k,n,c2,A2,hk,rfl,rfl,hnk,HO,hw⟩:=hrel
   have hk0:(0:Int)<=(k:Int):=by omega
   by_cases hlt:k<cs.length
   ·have hk1:(k:Int)<(cs.length:Int):=by omega
    have HF:=fA (zCX (zAi node rep) cs hlt)
    obtain ⟨b,off,a,d,rfl,blt,d0,d1,d2,d3,HH⟩:=(HI.out.below hw).cells hlt
    generalize (cs[k]'hlt)=x at *
    obtain ⟨x1,x2,x3,x4⟩:=x
    simp only at d0 d1 d2 d3 HH
    have hal:=wA wr (qN x1 x2 x3 a x4.length d)
    have gX:=rB wr (qN x1 x2 x3 a x4.length d)
    obtain ⟨e0,e1,e2,e3,_,_,_,_,hXl⟩:=nH gX
    have HO2:=fA (jB HO.out hal)
    have hw0:=hw.trans (hal.mono hw.size)
    have HHS:=fA (zED B cb rep 135 #[.pointer (yA ⟨wr.heap.size,0,none⟩)] (yE func135 (by kernel_rfl) rfl) (fun x:Rp=>jX x x1 x2 x3) (wr.alloc (qN x1 x2 x3 a x4.length d)) (H2.out.below hw0) (zPf wr.heap.size x1 x2 x3 a x4.length d _ (eB gX) gX))
    have HCT:=fA (fun W (hb:Below wr.heap.size wr W)=>pQ a d x4 node W (HH.below hb))
    have HST:jC (zAi node rep (x1,x2,x3,x4)=if eU (fun x:Rp=>jX x x1 x2 x3) rep && !ctn x4 node then [(0,0,5,x1,node,x2)] else if !eU (fun x:Rp=>jX x x1 x2 x3) rep && ctn x4 node then [(0,0,6,x1,node,0)] else []):=fA rfl
    clear HH
    generalize eU (fun x:Rp=>jX x x1 x2 x3) rep=q at *
    generalize ctn x4 node=ct at *
    go_upto_region 7 with fail
    generalize wr.alloc (qN x1 x2 x3 a x4.length d)=W2 at *
    cases q <;> cases ct
    all_goals (
     go_wp2_with (first
      | (go_at_call 112;refine HHS.out.mono ?_;rintro e w3 ⟨rfl,hb3⟩;obtain ⟨p0,p1,p2,p3,_⟩:=nH (kA hb3 gX);have hw3:=hw0.trans (hb3.mono hw0.size);have HO3:=fA (jB HO2.out hb3);have h3:=hal.trans (hb3.mono hal.size);have hX3:=tA hXl hb3.size)
      | (go_at_call 68;refine (HCT.out _ h3).mono ?_;rintro e wx ⟨rfl,hx⟩;subst hx)
      | (at_builtin;refine yC rfl (.tmp 42) (.tmp 49) rfl zJQ w.heap.size (.slice A2 n c2) n _ (by rfl) (jB HO3.out (wA wx _)) (yA ⟨wx.heap.size,0,none⟩) 1 1 (zEw (0,0,5,x1,node,x2)) (by rfl) (by rfl) (dC.new wx _ _) (zJK (0,0,5,x1,node,x2)) (by unfold maxLen;omega) (by omega) (pA hw3.size (wA wx _).size) (fun h=>by cases h) ?_;intro a1 c1 w4 hown hg hat;have hb4:=Below.appended (hw3.trans ((wA wx (zPR 0 0 5 x1 node x2)).mono hw3.size)) (jB HO3.out (wA wx (zPR 0 0 5 x1 node x2))) hg (pA hw3.size (wA wx (zPR 0 0 5 x1 node x2)).size) (mA _))
      | (at_builtin;refine yC rfl (.tmp 57) (.tmp 62) rfl zJQ w.heap.size (.slice A2 n c2) n _ (by rfl) (jB HO3.out (wA wx _)) (yA ⟨wx.heap.size,0,none⟩) 1 1 (zEw (0,0,6,x1,node,0)) (by rfl) (by rfl) (dC.new wx _ _) (zJK (0,0,6,x1,node,0)) (by unfold maxLen;omega) (by omega) (pA hw3.size (wA wx _).size) (fun h=>by cases h) ?_;intro a1 c1 w4 hown hg hat;have hb4:=Below.appended (hw3.trans ((wA wx (zPR 0 0 6 x1 node 0)).mono hw3.size)) (jB HO3.out (wA wx (zPR 0 0 6 x1 node 0))) hg (pA hw3.size (wA wx (zPR 0 0 6 x1 node 0)).size) (mA _)))
     go_roundw
     case rel=>first
      | exact ⟨k+1,n+1,c1,a1,by omega,rfl,by go_num,by omega,fA (by rw [HF.out,uD,HST.out];exact hown),hb4⟩
      | exact ⟨k+1,n,c2,A2,by omega,rfl,by go_num,by omega,fA (by rw [HF.out,uD,HST.out];simpa [flat] using HO3.out),hw3⟩
     case measure=>simp [intOf];omega)
   have hk1:¬ (k:Int)<(cs.length:Int):=by omega
   have hke:k=cs.length:=by omega
   subst hke
   rw [List.take_of_length_le (mA _),HRF.out] at HO
   go_wp2
   go_ret
   have hO:=HO.out
   have hl:=hO.1
   rw [jD zNR] at hl
   have:n=R.length:=by omega
   subst this
   exact ⟨A2,c2,rfl,hO,hw⟩
abbrev vN (a b c:Int):Obj:=.cells #[a,b,c] 258
def dZ (x y:Ne):Int:=zDb [gK x.2.2 y.2.2,gK x.2.1 y.2.1,gK x.1 y.1]
theorem zOU (x1 x2 x3 y1 y2 y3:Int) (w:uA):iA prog 312 #[.agg #[x1,x2,x3],.agg #[y1,y2,y3]] w fun e w'=>e=.returned (.int .i64 (dZ (x1,x2,x3) (y1,y2,y3)))/\Below w.heap.size w w':=by
 have hb:Below w.heap.size w ((w.alloc (vN x1 x2 x3)).alloc (vN y1 y2 y3)):=yI _ _ _
 have gX:((w.alloc (vN x1 x2 x3)).alloc (vN y1 y2 y3)).heap[w.heap.size]?=yA (vN x1 x2 x3):=bG _ _ _
 have gY:((w.alloc (vN x1 x2 x3)).alloc (vN y1 y2 y3)).heap[w.heap.size+1]?=yA (vN y1 y2 y3):=sF _ _ _
 have HC1:=fA (fun W=>gP x3 y3 W)
 have HC2:=fA (fun W=>gP x2 y2 W)
 have HC3:=fA (fun W=>gP x1 y1 W)
 unfold dZ
 simp only
 generalize gK x3 y3=c1 at *
 generalize gK x2 y2=c2 at *
 generalize gK x1 y1=c3 at *
 have HO:jC (∀ W B,dC W (yA ⟨B,0,none⟩) [.int .i64 c1,.int .i64 c2,.int .i64 c3] -> iA prog 253 #[.slice (yA ⟨B,0,none⟩) 3 3] W fun e w'=>e=.returned (.int .i64 (zDb [c1,c2,c3]))/\w'=W):=fA fun W B r=>zEf (yA ⟨B,0,none⟩) 3 [c1,c2,c3] W ⟨r,mA 3,(fun e=>by cases e),show 3<=1000000 by omega⟩
 generalize zDb [c1,c2,c3]=r at *
 obtain ⟨e0,e1,e2,_,_,_,_⟩:=vH gX
 obtain ⟨k0,k1,k2,_,_,_,_⟩:=vH gY
 go_enter func312,ntmps312
 go_wp2_with fail
 generalize (w.alloc (vN x1 x2 x3)).alloc (vN y1 y2 y3)=W at *
 go_region_held3 (fun W=>W.cell? ⟨w.heap.size,0,none⟩=yA (.int .i64 x1)/\W.cell? ⟨w.heap.size,1,none⟩=yA (.int .i64 x2)/\W.cell? ⟨w.heap.size,2,none⟩=yA (.int .i64 x3)/\W.cell? ⟨w.heap.size+1,0,none⟩=yA (.int .i64 y1)/\W.cell? ⟨w.heap.size+1,1,none⟩=yA (.int .i64 y2)/\W.cell? ⟨w.heap.size+1,2,none⟩=yA (.int .i64 y3)) (first | exact ⟨e0,e1,e2,k0,k1,k2⟩ | go_keep) (first
  | ((go_at_call 146;(with_reducible refine (HC1.out _).mono ?_);rintro e wx ⟨rfl,hx⟩;subst hx))
  | ((go_at_call 146;(with_reducible refine (HC2.out _).mono ?_);rintro e wx ⟨rfl,hx⟩;subst hx))
  | ((go_at_call 146;(with_reducible refine (HC3.out _).mono ?_);rintro e wx ⟨rfl,hx⟩;subst hx))
  | ((go_at_call 253;(with_reducible refine (HO.out _ _ (dC.new W #[c1,c2,c3] 3).drew).mono ?_);rintro e wy ⟨rfl,hx⟩;subst hx)))
 all_goals go_wp2
 all_goals go_ret
 all_goals exact ⟨rfl,(hb.alloc hb.size _).drew⟩
theorem zCM (x1 x2 x3 y1 y2 y3:Int) (w:uA):iA prog 239 #[.agg #[x1,x2,x3],.agg #[y1,y2,y3]] w fun e w'=>e=.returned (.bool (decide (dZ (x1,x2,x3) (y1,y2,y3)<0)))/\Below w.heap.size w w':=by
 have hb:Below w.heap.size w ((w.alloc (vN x1 x2 x3)).alloc (vN y1 y2 y3)):=yI _ _ _
 have HO:=fA (fun W=>zOU x1 x2 x3 y1 y2 y3 W)
 generalize dZ (x1,x2,x3) (y1,y2,y3)=r at *
 go_enter func239,ntmps239
 go_wp2_with (go_at_call 312;refine (HO.out _).mono ?_;rintro e w1 ⟨rfl,hb1⟩)
 go_ret
 exact ⟨rfl,hb.trans (hb1.mono hb.size)⟩
structure uQ where
 ls:List Le
 lA:Option mB
 lc:Nat
 ds:List Od
 dA:Option mB
 dc:Nat
 os:List Od
 oA:Option mB
 oc:Nat
 xs:List Cx
 xA:Option mB
 xc:Nat
structure uS where
 bv:uB
 sv:uB
 r:Ru
 t:Int
 ns:List Nd
 nA:Option mB
 nc:Nat
 cs:List Ch
 cA:Option mB
 cc:Nat
 al:List Int
 vA:Option mB
 vc:Nat
 se:List Ch
 sA:Option mB
 sc:Nat
abbrev zAb:=List Le × List Od × List Od × List Cx
def uQ.p (m:uQ):zAb:=(m.ls,m.ds,m.os,m.xs)
def uQ.S (D:Nat) (m:uQ):List Nat:=D :: (zB m.dA ++ (zB m.oA ++ zB m.xA))
def uS.ob (c:uS) (m:uQ):Obj:=zRg c.bv (.slice m.lA m.ls.length m.lc) (.slice m.dA m.ds.length m.dc) (.slice c.nA c.ns.length c.nc) (.slice c.cA c.cs.length c.cc) c.sv c.r c.t (.slice c.vA c.al.length c.vc) (.slice c.sA c.se.length c.sc) (.slice m.oA m.os.length m.oc) (.slice m.xA m.xs.length m.xc)
structure fW (Q:Nat -> Prop) (base:Nat) (w:uA) (D:Nat) (c:uS) (m:uQ):Prop where
 blk:w.heap[D]?=yA (c.ob m)
 lo:w.ownsRow base 176 5 (.slice m.lA m.ls.length m.lc) m.ls.length (flat vU m.ls)
 dr:w.ownsRow base 105 7 (.slice m.dA m.ds.length m.dc) m.ds.length (flat qL m.ds)
 oo:w.ownsRow base 105 7 (.slice m.oA m.os.length m.oc) m.os.length (flat qL m.os)
 xo:w.ownsRow base 99 6 (.slice m.xA m.xs.length m.xc) m.xs.length (flat zEw m.xs)
 ns:vS Q qH w c.nA c.nc c.ns
 cs:zCj Q w c.cA c.cc c.cs
 al:vS Q kG w c.vA c.vc c.al
 se:zCj Q w c.sA c.sc c.se
 lt:∀ x,Q x -> x<w.heap.size
 nq:∀ x ∈ m.S D,¬ Q x
 nl:∀ x ∈ zB m.lA,x ∉ m.S D
 ad:D ∉ zB m.dA ++ (zB m.oA ++ zB m.xA)
 ao:∀ x ∈ zB m.dA,x ∉ zB m.oA ++ zB m.xA
 ax:∀ x ∈ zB m.oA,x ∉ zB m.xA
 hb:base<=D/\base<=w.heap.size
theorem fW.below {Q:Nat -> Prop} {base:Nat} {w w':uA} {D:Nat} {c:uS} {m:uQ} (h:fW Q base w D c m) (hb:Below w.heap.size w w'):fW Q base w' D c m :=
 ⟨kA hb h.blk,jB h.lo hb,jB h.dr hb,jB h.oo hb,jB h.xo hb,h.ns.below hb,h.cs.below hb,h.al.below hb,h.se.below hb,fun x hx=>tA (h.lt x hx) hb.size,h.nq,h.nl,h.ad,h.ao,h.ax,⟨h.hb.1,pA h.hb.2 hb.size⟩⟩
structure sG (Q:Nat -> Prop) (base:Nat) (D:Nat) (c:uS) (m m':uQ) (w w':uA):Prop where
 at_:fW Q base w' D c m'
 chg:fD (m.S D) w w'
 fr:∀ x ∈ m'.S D,x ∈ m.S D\/w.heap.size<=x
theorem sG.refl {Q:Nat -> Prop} {base:Nat} {w w':uA} {D:Nat} {c:uS} {m:uQ} (h:fW Q base w D c m) (hb:Below w.heap.size w w'):sG Q base D c m m w w':=⟨h.below hb,fD.of_below hb,fun x hx=>.inl hx⟩
theorem sG.trans {Q:Nat -> Prop} {base:Nat} {w w' w'':uA} {D:Nat} {c:uS} {m m' m'':uQ} (h:sG Q base D c m m' w w') (k:sG Q base D c m' m'' w' w''):sG Q base D c m m'' w w'' :=
 ⟨k.at_,h.chg.trans k.chg h.fr,fun x hx=>by
  rcases k.fr x hx with q | q
  ·exact h.fr x q
  ·exact .inr (pA h.chg.size q)⟩
theorem uQ.inS {D:Nat} {m:uQ} {x:Nat}:x ∈ m.S D ↔ x=D\/x ∈ zB m.dA\/x ∈ zB m.oA\/x ∈ zB m.xA:=by simp [uQ.S]
section
variable {Q:Nat -> Prop} {base:Nat} {w w':uA} {D:Nat} {c:uS} {m m':uQ}
theorem fW.far (h:fW Q base w D c m):(∀ x ∈ zB m.lA,x≠D/\x ∉ zB m.dA/\x ∉ zB m.oA/\x ∉ zB m.xA)/\(D ∉ zB m.dA/\D ∉ zB m.oA/\D ∉ zB m.xA)/\(∀ x ∈ zB m.dA,x ∉ zB m.oA/\x ∉ zB m.xA)/\∀ x ∈ zB m.oA,x ∉ zB m.xA :=
 ⟨fun x hx=>by have:=h.nl x hx;rw [uQ.inS] at this;simpa [not_or] using this,by have:=h.ad;simpa [not_or] using this,fun x hx=>by have:=h.ao x hx;simpa [not_or] using this,h.ax⟩
theorem fW.lts (h:fW Q base w D c m):D<w.heap.size/\(∀ x ∈ zB m.lA,x<w.heap.size)/\(∀ x ∈ zB m.dA,x<w.heap.size)/\(∀ x ∈ zB m.oA,x<w.heap.size)/\∀ x ∈ zB m.xA,x<w.heap.size :=
 ⟨eB h.blk,fun x hx=>(qC h.lo x hx).2,fun x hx=>(qC h.dr x hx).2,fun x hx=>(qC h.oo x hx).2,fun x hx=>(qC h.xo x hx).2⟩
theorem fW.upd0 (h:fW Q base w D c m) (hC:fD (m.S D) w w') (blk:w'.heap[D]?=yA (c.ob m'))
  (lo:w'.ownsRow base 176 5 (.slice m'.lA m'.ls.length m'.lc) m'.ls.length (flat vU m'.ls)) (dr:w'.ownsRow base 105 7 (.slice m'.dA m'.ds.length m'.dc) m'.ds.length (flat qL m'.ds))
  (oo:w'.ownsRow base 105 7 (.slice m'.oA m'.os.length m'.oc) m'.os.length (flat qL m'.os)) (xo:w'.ownsRow base 99 6 (.slice m'.xA m'.xs.length m'.xc) m'.xs.length (flat zEw m'.xs))
  (hl:∀ x ∈ zB m'.lA,x ∈ zB m.lA\/w.heap.size<=x) (hd:∀ x ∈ zB m'.dA,x ∈ zB m.dA\/w.heap.size<=x) (ho:∀ x ∈ zB m'.oA,x ∈ zB m.oA\/w.heap.size<=x) (hx:∀ x ∈ zB m'.xA,x ∈ zB m.xA\/w.heap.size<=x)
  (e1:∀ x ∈ zB m'.lA,x ∉ zB m'.dA/\x ∉ zB m'.oA/\x ∉ zB m'.xA) (e2:∀ x ∈ zB m'.dA,x ∉ zB m'.oA/\x ∉ zB m'.xA) (e3:∀ x ∈ zB m'.oA,x ∉ zB m'.xA):sG Q base D c m m' w w':=by
 obtain ⟨f1,f2,f3,f4⟩:=h.far
 have hD:=h.lts.1
 have hq:∀ x,Q x -> x ∉ m.S D:=fun x hx hs=>h.nq x hs hx
 have hn:∀ x ∈ m'.S D,x ∈ m.S D\/w.heap.size<=x:=fun x hs=>by
  rw [uQ.inS] at hs ⊢
  rcases hs with s | s | s | s
  ·exact .inl (.inl s)
  ·exact (hd x s).imp (fun q=>.inr (.inl q)) fun q=>q
  ·exact (ho x s).imp (fun q=>.inr (.inr (.inl q))) fun q=>q
  ·exact (hx x s).imp (fun q=>.inr (.inr (.inr q))) fun q=>q
 refine ⟨⟨blk,lo,dr,oo,xo,h.ns.chg hC hq,h.cs.chg hC hq,h.al.chg hC hq,h.se.chg hC hq,fun x hx=>tA (h.lt x hx) hC.size,fun x hs hQ => ?_,fun x hs hs2 => ?_,fun hs => ?_,fun x hs => ?_,e3,⟨h.hb.1,pA h.hb.2 hC.size⟩⟩,hC,hn⟩
 ·rcases hn x hs with q | q
  ·exact h.nq x q hQ
  ·have:=h.lt x hQ;omega
 ·rw [uQ.inS] at hs2
  have:=e1 x hs
  rcases hs2 with s | s | s | s
  ·subst s
   rcases hl _ hs with q | q
   ·exact (f1 _ q).1 rfl
   ·omega
  ·exact this.1 s
  ·exact this.2.1 s
  ·exact this.2.2 s
 ·rw [xD,xD] at hs
  rcases hs with s | s | s
  ·rcases hd D s with r | r
   ·exact f2.1 r
   ·omega
  ·rcases ho D s with r | r
   ·exact f2.2.1 r
   ·omega
  ·rcases hx D s with r | r
   ·exact f2.2.2 r
   ·omega
 ·rw [xD,not_or]
  exact e2 x hs
theorem fW.upd (h:fW Q base w D c m) (hC:fD (m.S D) w w') (blk:w'.heap[D]?=yA (c.ob m'))
  (lo:w'.ownsRow base 176 5 (.slice m'.lA m'.ls.length m'.lc) m'.ls.length (flat vU m'.ls)) (dr:w'.ownsRow base 105 7 (.slice m'.dA m'.ds.length m'.dc) m'.ds.length (flat qL m'.ds))
  (oo:w'.ownsRow base 105 7 (.slice m'.oA m'.os.length m'.oc) m'.os.length (flat qL m'.os)) (xo:w'.ownsRow base 99 6 (.slice m'.xA m'.xs.length m'.xc) m'.xs.length (flat zEw m'.xs))
  {l0 l1 d0 d1 o0 o1 x0 x1:Nat} (hl:∀ x ∈ zB m'.lA,x ∈ zB m.lA\/(l0<=x/\x<l1)) (hd:∀ x ∈ zB m'.dA,x ∈ zB m.dA\/(d0<=x/\x<d1)) (ho:∀ x ∈ zB m'.oA,x ∈ zB m.oA\/(o0<=x/\x<o1)) (hx:∀ x ∈ zB m'.xA,x ∈ zB m.xA\/(x0<=x/\x<x1))
  (hz:w.heap.size<=l0/\w.heap.size<=d0/\w.heap.size<=o0/\w.heap.size<=x0) (hj:(l1<=d0\/d1<=l0)/\(l1<=o0\/o1<=l0)/\(l1<=x0\/x1<=l0)/\(d1<=o0\/o1<=d0)/\(d1<=x0\/x1<=d0)/\(o1<=x0\/x1<=o0)):sG Q base D c m m' w w':=by
 obtain ⟨f1,f2,f3,f4⟩:=h.far
 obtain ⟨k0,k1,k2,k3,k4⟩:=h.lts
 have sep:∀ {A A' B B':Option mB} {a0 a1 b0 b1:Nat},(∀ x ∈ zB A',x ∈ zB A\/(a0<=x/\x<a1)) -> (∀ x ∈ zB B',x ∈ zB B\/(b0<=x/\x<b1)) -> (∀ x ∈ zB A,x ∉ zB B) -> (∀ x ∈ zB A,x<w.heap.size) -> (∀ x ∈ zB B,x<w.heap.size) -> w.heap.size<=a0 -> w.heap.size<=b0 -> (a1<=b0\/b1<=a0) -> ∀ x ∈ zB A',x ∉ zB B':=fun ha hb hab la lb za zb hj x hx hx2=>by
  rcases ha x hx with q | q <;> rcases hb x hx2 with r | r
  ·exact hab x q r
  ·have:=la x q;omega
  ·have:=lb x r;omega
  ·omega
 exact h.upd0 hC blk lo dr oo xo (fun x q=>(hl x q).imp id fun r=>by omega) (fun x q=>(hd x q).imp id fun r=>by omega) (fun x q=>(ho x q).imp id fun r=>by omega) (fun x q=>(hx x q).imp id fun r=>by omega)
  (fun x q=>⟨sep hl hd (fun x q=>(f1 x q).2.1) k1 k2 hz.1 hz.2.1 hj.1 x q,sep hl ho (fun x q=>(f1 x q).2.2.1) k1 k3 hz.1 hz.2.2.1 hj.2.1 x q,sep hl hx (fun x q=>(f1 x q).2.2.2) k1 k4 hz.1 hz.2.2.2 hj.2.2.1 x q⟩)
  (fun x q=>⟨sep hd ho (fun x q=>(f3 x q).1) k2 k3 hz.2.1 hz.2.2.1 hj.2.2.2.1 x q,sep hd hx (fun x q=>(f3 x q).2) k2 k4 hz.2.1 hz.2.2.2 hj.2.2.2.2.1 x q⟩) (sep ho hx f4 k3 k4 hz.2.2.1 hz.2.2.2 hj.2.2.2.2.2)
theorem fW.two (h:fW Q base w D c m) {w7:uA} {A5 A6:Option mB} {c5 c6:Nat} {o:Od} (hC:fD (zB m.oA ++ zB m.dA) w w7) (own5:w7.ownsRow base 105 7 (.slice A5 (m.os.length+1) c5) (m.os.length+1) (flat qL m.os ++ qL o)) (own6:w7.ownsRow base 105 7 (.slice A6 (m.ds.length+1) c6) (m.ds.length+1) (flat qL m.ds ++ qL o))
  (h5:∀ x ∈ zB A5,x ∈ zB m.oA\/w.heap.size<=x) (h6:∀ x ∈ zB A6,x ∈ zB m.dA\/w.heap.size<=x) (h56:∀ x ∈ zB A6,x ∉ zB A5):sG Q base D c m { m with ds:=m.ds ++ [o],dA:=A6,dc:=c6,os:=m.os ++ [o],oA:=A5,oc:=c5 } w ((w7.setCell ⟨D,15,none⟩ (.slice A5 (m.os.length+1) c5)).setCell ⟨D,2,none⟩ (.slice A6 (m.ds.length+1) c6)):=by
 obtain ⟨f1,f2,f3,f4⟩:=h.far
 obtain ⟨k0,k1,k2,k3,k4⟩:=h.lts
 have hDT:D ∉ zB m.oA ++ zB m.dA:=by rw [xD,not_or];exact ⟨f2.2.1,f2.1⟩
 have gD:=hC.keep h.blk hDT
 have nD:∀ {A A':Option mB},(∀ x ∈ zB A',x ∈ zB A\/w.heap.size<=x) -> D ∉ zB A -> ∀ x ∈ zB A',x≠D:=fun hA hD x hx he=>by
  subst he
  rcases hA _ hx with q | q
  ·exact hD q
  ·omega
 have old:∀ {A B B':Option mB},(∀ x ∈ zB B',x ∈ zB B\/w.heap.size<=x) -> (∀ x ∈ zB A,x ∉ zB B) -> (∀ x ∈ zB A,x<w.heap.size) -> ∀ x ∈ zB A,x ∉ zB B':=fun hB hAB hA x hx hx2=>by
  rcases hB x hx2 with q | q
  ·exact hAB x hx q
  ·have:=hA x hx;omega
 have mv:∀ {e:TypeId} {k q c:Nat} {A:Option mB} {xs:List uB},w7.ownsRow base e k (.slice A q c) q xs -> (∀ x ∈ zB A,x≠D) -> ((w7.setCell ⟨D,15,none⟩ (.slice A5 (m.os.length+1) c5)).setCell ⟨D,2,none⟩ (.slice A6 (m.ds.length+1) c6)).ownsRow base e k (.slice A q c) q xs:=fun h1 h2=>rE (rE h1 h2 15 _) h2 2 _
 refine h.upd0 (((hC.mono fun x hx=>.inl (uQ.inS.2 (by rcases xD.1 hx with q | q;exact .inr (.inr (.inl q));exact .inr (.inl q)))).setCell (.inl (uQ.inS.2 (.inl rfl))) 15 _).setCell (.inl (uQ.inS.2 (.inl rfl))) 2 _) ?_ (mv (xE h.lo hC (fun x hx hc => ?_)) (fun x hx=>(f1 x hx).1)) ?_ ?_ (mv (xE h.xo hC (fun x hx hc => ?_)) (fun x hx he=>f2.2.2 (by rw [<- he];exact hx))) (fun x hx=>.inl hx) h6 h5 (fun x hx=>.inl hx)
  (fun x hx=>⟨old h6 (fun x q=>(f1 x q).2.1) k1 x hx,old h5 (fun x q=>(f1 x q).2.2.1) k1 x hx,(f1 x hx).2.2.2⟩) (fun x hx=>⟨h56 x hx,fun hc=>old h6 (fun y q r=>(f3 y r).2 q) k4 x hc hx⟩) (fun x hx hc=>old h5 (fun y q r=>f4 y r q) k4 x hc hx)
 ·have:=zD (i:=2) (zD (i:=15) gD (.slice A5 (m.os.length+1) c5)) (.slice A6 (m.ds.length+1) c6)
  simpa [uS.ob] using this
 ·rcases xD.1 hc with q | q
  ·exact (f1 x hx).2.2.1 q
  ·exact (f1 x hx).2.1 q
 ·rw [kB,uD]
  exact mv (by simpa [flat] using own6) (nD h6 f2.1)
 ·rw [kB,uD]
  exact mv (by simpa [flat] using own5) (nD h5 f2.2.1)
 ·rcases xD.1 hc with q | q
  ·exact f4 x q hx
  ·exact (f3 x q).2 hx
theorem fW.onx (h:fW Q base w D c m) {w7:uA} {A7:Option mB} {c7:Nat} {o:Cx} (hC:fD (zB m.xA) w w7) (own7:w7.ownsRow base 99 6 (.slice A7 (m.xs.length+1) c7) (m.xs.length+1) (flat zEw m.xs ++ zEw o)) (h7:∀ x ∈ zB A7,x ∈ zB m.xA\/w.heap.size<=x):sG Q base D c m { m with xs:=m.xs ++ [o],xA:=A7,xc:=c7 } w (w7.setCell ⟨D,16,none⟩ (.slice A7 (m.xs.length+1) c7)):=by
 obtain ⟨f1,f2,f3,f4⟩:=h.far
 obtain ⟨k0,k1,k2,k3,k4⟩:=h.lts
 have gD:=hC.keep h.blk f2.2.2
 have old:∀ {A:Option mB},(∀ x ∈ zB A,x ∉ zB m.xA) -> (∀ x ∈ zB A,x<w.heap.size) -> ∀ x ∈ zB A,x ∉ zB A7:=fun hAB hA x hx hx2=>by
  rcases h7 x hx2 with q | q
  ·exact hAB x hx q
  ·have:=hA x hx;omega
 have mv:∀ {e:TypeId} {k q c:Nat} {A:Option mB} {xs:List uB},w7.ownsRow base e k (.slice A q c) q xs -> (∀ x ∈ zB A,x≠D) -> (w7.setCell ⟨D,16,none⟩ (.slice A7 (m.xs.length+1) c7)).ownsRow base e k (.slice A q c) q xs:=fun h1 h2=>rE h1 h2 16 _
 refine h.upd0 ((hC.mono fun x hx=>.inl (uQ.inS.2 (.inr (.inr (.inr hx))))).setCell (.inl (uQ.inS.2 (.inl rfl))) 16 _) ?_ (mv (xE h.lo hC (fun x hx=>(f1 x hx).2.2.2)) (fun x hx=>(f1 x hx).1)) (mv (xE h.dr hC (fun x hx=>(f3 x hx).2)) (fun x hx he=>f2.1 (by rw [<- he];exact hx))) (mv (xE h.oo hC f4) (fun x hx he=>f2.2.1 (by rw [<- he];exact hx))) ?_ (fun x hx=>.inl hx) (fun x hx=>.inl hx) (fun x hx=>.inl hx) h7
  (fun x hx=>⟨(f1 x hx).2.1,(f1 x hx).2.2.1,old (fun x q=>(f1 x q).2.2.2) k1 x hx⟩) (fun x hx=>⟨(f3 x hx).1,old (fun x q=>(f3 x q).2) k2 x hx⟩) (old f4 k3)
 ·have:=zD (i:=16) gD (.slice A7 (m.xs.length+1) c7)
  simpa [uS.ob] using this
 ·rw [kB,uD]
  exact mv (by simpa [flat] using own7) (fun x hx he=>by
   subst he
   rcases h7 _ hx with q | q
   ·exact f2.2.2 q
   ·omega)
end
section
open Go.Sort
def qT (ls:List Ld) (x y:Nd):Int:=zDb [gK (kF ls x.1) (kF ls y.1),gK x.1 y.1]
theorem zHI (x y:Int):-1<=gK x y/\gK x y<=1:=by
 unfold gK
 split
 ·omega
 ·split <;> omega
theorem zLL (ls:List Ld) (x y:Nd):-1<=qT ls x y/\qT ls x y<=1:=by
 have h1:=zHI (kF ls x.1) (kF ls y.1)
 have h2:=zHI x.1 y.1
 unfold qT zDb zDb zDb
 split
 ·split <;> omega
 ·omega
theorem zKF (L:Nat) (A:Option mB) (c:Nat) (ls:List Ld) (x1 x2 x3 x4 y1 y2 y3 y4:Int) (w:uA) (h:yB zV w A c ls) (hl:L<w.heap.size) (hL:w.cell? ⟨L,0,none⟩=yA (.slice A ls.length c)):iA prog 322 #[.agg #[x1,x2,x3,x4],.agg #[y1,y2,y3,y4],.pointer (yA ⟨L,0,none⟩)] w fun e w'=>e=.returned (.int .i64 (qT ls (x1,x2,x3,x4) (y1,y2,y3,y4)))/\Mo w w':=by
 have hal:Mo w ((w.alloc (zCb x1 x2 x3 x4)).alloc (zCb y1 y2 y3 y4)):=((Mo.refl w).alloc _).alloc _
 have gX:((w.alloc (zCb x1 x2 x3 x4)).alloc (zCb y1 y2 y3 y4)).heap[w.heap.size]?=yA (zCb x1 x2 x3 x4):=bG _ _ _
 have gY:((w.alloc (zCb x1 x2 x3 x4)).alloc (zCb y1 y2 y3 y4)).heap[w.heap.size+1]?=yA (zCb y1 y2 y3 y4):=sF _ _ _
 have HLD:jC (∀ n W,Mo w W -> iA prog 125 #[.slice A ls.length c,.int .i64 n] W fun e w'=>e=.returned (.int .i64 (kF ls n))/\Mo W w'):=fA fun n W hb=>zGe A c ls n W (h.below hb.below)
 have HL1:=fA (HLD.out x1)
 have HL2:=fA (HLD.out y1)
 have HC1:=fA (fun W=>gP (kF ls x1) (kF ls y1) W)
 have HC2:=fA (fun W=>gP x1 y1 W)
 have kX:=(bcell hal.below).1 L 0 hl
 have hb:=hal
 have eL:=kX.trans hL
 unfold qT
 simp only
 clear h HLD
 generalize kF ls x1=l1 at *
 generalize kF ls y1=l2 at *
 generalize gK l1 l2=c1 at *
 generalize gK x1 y1=c2 at *
 have HO:jC (∀ W B,dC W (yA ⟨B,0,none⟩) [.int .i64 c1,.int .i64 c2] -> iA prog 253 #[.slice (yA ⟨B,0,none⟩) 2 2] W fun e w'=>e=.returned (.int .i64 (zDb [c1,c2]))/\w'=W):=fA fun W B r=>zEf (yA ⟨B,0,none⟩) 2 [c1,c2] W ⟨r,mA 2,(fun e=>by cases e),show 2<=1000000 by omega⟩
 generalize zDb [c1,c2]=r at *
 go_enter func322,ntmps322
 go_wp2_with fail
 go_region_held3 (fun W=>W.cell? ⟨L,0,none⟩=yA (.slice A ls.length c)/\W.cell? ⟨w.heap.size,0,none⟩=yA (.int .i64 x1)/\W.cell? ⟨w.heap.size+1,0,none⟩=yA (.int .i64 y1)) (first | exact ⟨eL,jA gX 0,jA gY 0⟩ | exact ⟨m0,m1,m2⟩ | exact ⟨n0,n1,n2⟩ | go_keep) (first
  | ((go_at_call 125;(with_reducible refine (HL1.out _ hb.drew).mono ?_);rintro e w2 ⟨rfl,hb2⟩;have b2:=hb.drew.trans hb2;have g2:=kA hb2.below (iB gX);have k2:=kA hb2.below (iB gY);have m0:w2.cell? ⟨L,0,none⟩=yA (.slice A ls.length c):=((bcell b2.below).1 L 0 hl).trans hL;have m1:w2.cell? ⟨w.heap.size,0,none⟩=yA (.int .i64 x1):=jA g2 0;have m2:w2.cell? ⟨w.heap.size+1,0,none⟩=yA (.int .i64 y1):=jA k2 0))
  | ((go_at_call 125;(with_reducible refine (HL2.out _ b2).mono ?_);rintro e w3 ⟨rfl,hb3⟩;have b3:=b2.trans hb3;have g3:=kA hb3.below g2;have k3:=kA hb3.below k2;have n0:w3.cell? ⟨L,0,none⟩=yA (.slice A ls.length c):=((bcell b3.below).1 L 0 hl).trans hL;have n1:w3.cell? ⟨w.heap.size,0,none⟩=yA (.int .i64 x1):=jA g3 0;have n2:w3.cell? ⟨w.heap.size+1,0,none⟩=yA (.int .i64 y1):=jA k3 0))
  | ((go_at_call 146;(with_reducible refine (HC1.out _).mono ?_);rintro e wx ⟨rfl,hx⟩;subst hx))
  | ((go_at_call 146;(with_reducible refine (HC2.out _).mono ?_);rintro e wx ⟨rfl,hx⟩;subst hx))
  | ((go_at_call 253;(with_reducible refine (HO.out _ _ (dC.new wx #[c1,c2] 3)).mono ?_);rintro e wy ⟨rfl,hx⟩;subst hx)))
 all_goals go_wp2
 go_ret
 exact ⟨rfl,b3.alloc _⟩
theorem zKE (L:Nat) (A:Option mB) (c:Nat) (ls:List Ld) (x1 x2 x3 x4 y1 y2 y3 y4:Int) (w:uA) (h:yB zV w A c ls) (hl:L<w.heap.size) (hL:w.cell? ⟨L,0,none⟩=yA (.slice A ls.length c)):iA prog 321 #[.agg #[x1,x2,x3,x4],.agg #[y1,y2,y3,y4],.pointer (yA ⟨L,0,none⟩)] w fun e w'=>e=.returned (.int .i64 (-qT ls (x1,x2,x3,x4) (y1,y2,y3,y4)))/\Mo w w':=by
 have hrg:=zLL ls (x1,x2,x3,x4) (y1,y2,y3,y4)
 have hal:Mo w ((w.alloc (zCb x1 x2 x3 x4)).alloc (zCb y1 y2 y3 y4)):=((Mo.refl w).alloc _).alloc _
 have gX:((w.alloc (zCb x1 x2 x3 x4)).alloc (zCb y1 y2 y3 y4)).heap[w.heap.size]?=yA (zCb x1 x2 x3 x4):=bG _ _ _
 have gY:((w.alloc (zCb x1 x2 x3 x4)).alloc (zCb y1 y2 y3 y4)).heap[w.heap.size+1]?=yA (zCb y1 y2 y3 y4):=sF _ _ _
 have HLD:jC (∀ n W,Mo w W -> iA prog 125 #[.slice A ls.length c,.int .i64 n] W fun e w'=>e=.returned (.int .i64 (kF ls n))/\Mo W w'):=fA fun n W hb=>zGe A c ls n W (h.below hb.below)
 have HL1:=fA (HLD.out x1)
 have HL2:=fA (HLD.out y1)
 have HC1:=fA (fun W=>gP (kF ls x1) (kF ls y1) W)
 have HC2:=fA (fun W=>gP x1 y1 W)
 have kX:=(bcell hal.below).1 L 0 hl
 have hb:=hal
 have eL:=kX.trans hL
 unfold qT at hrg ⊢
 simp only at hrg ⊢
 clear h HLD
 generalize kF ls x1=l1 at *
 generalize kF ls y1=l2 at *
 generalize gK l1 l2=c1 at *
 generalize gK x1 y1=c2 at *
 have HO:jC (∀ W B,dC W (yA ⟨B,0,none⟩) [.int .i64 c1,.int .i64 c2] -> iA prog 253 #[.slice (yA ⟨B,0,none⟩) 2 2] W fun e w'=>e=.returned (.int .i64 (zDb [c1,c2]))/\w'=W):=fA fun W B r=>zEf (yA ⟨B,0,none⟩) 2 [c1,c2] W ⟨r,mA 2,(fun e=>by cases e),show 2<=1000000 by omega⟩
 generalize zDb [c1,c2]=r at *
 have hwr:IntKind.i64.wrap (-r)=-r:=oH (by omega) (by omega)
 go_enter func321,ntmps321
 go_wp2_with fail
 go_region_held3 (fun W=>W.cell? ⟨L,0,none⟩=yA (.slice A ls.length c)/\W.cell? ⟨w.heap.size,0,none⟩=yA (.int .i64 x1)/\W.cell? ⟨w.heap.size+1,0,none⟩=yA (.int .i64 y1)) (first | exact ⟨eL,jA gX 0,jA gY 0⟩ | exact ⟨m0,m1,m2⟩ | exact ⟨n0,n1,n2⟩ | go_keep) (first
  | ((go_at_call 125;(with_reducible refine (HL1.out _ hb.drew).mono ?_);rintro e w2 ⟨rfl,hb2⟩;have b2:=hb.drew.trans hb2;have g2:=kA hb2.below (iB gX);have k2:=kA hb2.below (iB gY);have m0:w2.cell? ⟨L,0,none⟩=yA (.slice A ls.length c):=((bcell b2.below).1 L 0 hl).trans hL;have m1:w2.cell? ⟨w.heap.size,0,none⟩=yA (.int .i64 x1):=jA g2 0;have m2:w2.cell? ⟨w.heap.size+1,0,none⟩=yA (.int .i64 y1):=jA k2 0))
  | ((go_at_call 125;(with_reducible refine (HL2.out _ b2).mono ?_);rintro e w3 ⟨rfl,hb3⟩;have b3:=b2.trans hb3;have g3:=kA hb3.below g2;have k3:=kA hb3.below k2;have n0:w3.cell? ⟨L,0,none⟩=yA (.slice A ls.length c):=((bcell b3.below).1 L 0 hl).trans hL;have n1:w3.cell? ⟨w.heap.size,0,none⟩=yA (.int .i64 x1):=jA g3 0;have n2:w3.cell? ⟨w.heap.size+1,0,none⟩=yA (.int .i64 y1):=jA k3 0))
  | ((go_at_call 146;(with_reducible refine (HC1.out _).mono ?_);rintro e wx ⟨rfl,hx⟩;subst hx))
  | ((go_at_call 146;(with_reducible refine (HC2.out _).mono ?_);rintro e wx ⟨rfl,hx⟩;subst hx))
  | ((go_at_call 253;(with_reducible refine (HO.out _ _ (dC.new wx #[c1,c2] 3)).mono ?_);rintro e wy ⟨rfl,hx⟩;subst hx)))
 all_goals go_wp2
 go_ret
 exact ⟨rfl,b3.alloc _⟩
end
end Go.Proofs.YtogbpifcmhafkaaGreat
