/-
 Part PZA of the proof.
-/
import Derived.Test.YtogbpifcmhafkaaGreatPW
open And renaming intro->gG
open Go renaming Addr->mB,Calls->iA,Value->uB,World->uA,floatOfInt->pK,undef->vB
open Go.Exit renaming jump->vP
open Go.FloatKind renaming format->rI
open Go.Instr renaming slice->yF
open Go.Lib renaming hid->fA
open Go.RowKit renaming Hid->jC
open Go.Value renaming oneCell'->qE
open Go.World renaming ownsRow_nil->nB
open List renaming getD_eq_getElem?_getD->pB,length_cons->qD,length_drop->vD,length_take->sB,length_take_le'->zAH,take_of_length_le->zC,take_succ_eq_append_getElem->tB
open Nat renaming le_refl->mA,le_trans->pA
open Option renaming some->yA
namespace Go.Proofs.YtogbpifcmhafkaaGreat
open Go.RowKit Tryz
open Go.Lib(hid)
set_option linter.unusedVariables false
set_option linter.unusedSimpArgs false
set_option maxRecDepth 100000
set_option maxHeartbeats 16000000
theorem yB.take {α:Type} {enc:α -> List uB} {w:uA} {A:Option mB} {c:Nat} {xs:List α} (h:yB enc w A c xs) {k:Nat} (hk:∀ x,(enc x).length=k) (i:Nat):yB enc w A c (xs.take i):=by
 refine ⟨?_,pA (zAH _ _) h.cap,fun e => ?_,pA (zAH _ _) h.max⟩
 ·rw [<- mL hk]
  rcases h.row with e | ⟨b,off,ha,hb,hc⟩
  ·exact .inl (by rw [e,List.take_nil])
  ·refine .inr ⟨b,off,ha,hb,fun j u hj=>hc j u ?_⟩
   rw [List.getElem?_take] at hj
   split at hj
   ·exact hj
   ·cases hj
 ·have:=h.none_ e
  rw [sB];omega
theorem yB.drop {α:Type} {enc:α -> List uB} {w:uA} {A:Option mB} {c:Nat} {xs:List α} (h:yB enc w A c xs) {k:Nat} (hk:∀ x,(enc x).length=k) (i:Nat):yB enc w (cutS A c i k) (c - i) (xs.drop i):=by
 have h1:=h.cap
 have h2:=h.max
 refine ⟨?_,by rw [vD];omega,fun e => ?_,by rw [vD];omega⟩
 ·rw [<- wM hk]
  exact h.row.cutS c i k (by rw [jD hk];exact Nat.mul_le_mul_right _ h1)
 ·rw [vD]
  exact zLO (fun q=>h.none_ q) e
def zAZ (xs:List Le) (t tn:Int):List Le × Int:=if bE (lkey t tn) xs 0<0 then ([],5) else (xs.take (bE (lkey t tn) xs 0).toNat ++ xs.drop ((bE (lkey t tn) xs 0).toNat+1),0)
theorem zLP (A : Option mB) (c : Nat) (xs : List Le) (t tn : Int) (w : uA) (h : yB vU w A c xs) : iA prog 186 #[.slice A xs.length c, t, tn] w (zNt (zAZ xs t tn) w) := by
 have hmx:=h.max
 have HF:=fA (zFV A c xs t tn w h)
 have hcs:=fM (lkey t tn) xs 0
 unfold zAZ
 generalize bE (lkey t tn) xs 0=v at *
 rcases hcs with ⟨rfl,_⟩ | ⟨k,hk,hv,_,_⟩
 ·rw [if_pos (by decide)]
  clear h
  go_enter func186,ntmps186
  go_wp2_with (go_at_call 257;refine HF.out.mono ?_;rintro e w1 ⟨rfl,hb1⟩)
  go_ret2
  exact ⟨none,0,rfl,nB _ _ _ _,hb1⟩
 ·rw [Nat.zero_add] at hv
  subst hv
  have hk0:(0:Int)<=(k:Int):=by omega
  have hcap:=h.cap
  rw [if_neg (by omega),Int.toNat_natCast]
  have hlt1:(xs.take k).length=k:=by rw [sB];omega
  have hld1:(xs.drop (k+1)).length=xs.length - (k+1):=by rw [vD]
  have HCC:jC (∀ W w1,Below w.heap.size w w1 -> W=w1.alloc (.cells #[.slice A k c,.slice (cutS A c (k+1) 5) (xs.length - (k+1)) (c - (k+1))] 53) -> iA prog 258 #[.slice (yA ⟨w1.heap.size,0,none⟩) 2 2] W (mD 176 5 (xs.take k ++ xs.drop (k+1)).length (flat vU (xs.take k ++ xs.drop (k+1))) W)):=fA fun W w1 hb e=>by
   have hbW:Below w.heap.size w W:=by rw [e];exact hb.alloc hb.size _
   have hg:W.heap[w1.heap.size]?=yA (.cells #[.slice A k c,.slice (cutS A c (k+1) 5) (xs.length - (k+1)) (c - (k+1))] 53):=by rw [e];exact rB _ _
   have:=zLG w1.heap.size 2 [xs.take k,xs.drop (k+1)] [(A,c),(cutS A c (k+1) 5,c - (k+1))] W rfl ⟨rfl,eB hg,fun i x a p q=>by
    match i,p,q with
    | 0,p,q=>injection p with p;injection q with q;subst p q;exact ⟨by rw [hlt1];exact jA hg 0,(h.below hbW).take zEK k⟩
    | 1,p,q=>injection p with p;injection q with q;subst p q;exact ⟨by rw [hld1];exact jA hg 1,(h.below hbW).drop zEK (k+1)⟩⟩ (by simp;omega) (by omega)
   simpa using this
  have hs1:∀ W,(yF 53 (.slice A xs.length c) none (yA (.int .i64 (k:Int))) none).run prog W=.ok (.slice A k c) W:=fun W=>mP (P:=prog) zAe A xs.length c k (by omega) W
  have hs2:∀ W,(yF 53 (.slice A xs.length c) (yA (.int .i64 ((k:Int)+1))) none none).run prog W=.ok (.slice (cutS A c (k+1) 5) (xs.length - (k+1)) (c - (k+1))) W:=fun W=>by
   have:=eK (P:=prog) zAe A xs.length c (k+1) (by omega) W
   rwa [show (((k+1:Nat)):Int)=(k:Int)+1 by omega] at this
  clear h
  have hwr:IntKind.i64.wrap ((k:Int)+1)=(k:Int)+1:=oH (by omega) (by omega)
  generalize cutS A c (k+1) 5=A2 at *
  generalize xs.take k ++ xs.drop (k+1)=ys at *
  go_enter func186,ntmps186
  go_upto_region 4 with (go_at_call 257;refine HF.out.mono ?_;rintro e w1 ⟨rfl,hb1⟩)
  go_region_law (first
   | ((try go_simp);go_at_call 258;refine (HCC.out _ _ hb1.drew rfl).mono ?_;rintro e w2 ⟨A3,c3,rfl,own3,hb3⟩;(try go_simp)))
  all_goals go_wp2
  all_goals go_ret2
  all_goals exact ⟨A3,c3,rfl,oC own3 (pA hb1.size (wA w1 _).size),hb1.drew.trans (((wA w1.drew _).trans (hb3.mono (wA w1.drew _).size)).mono hb1.size)⟩
theorem yB.chg2 {α:Type} {enc:α -> List uB} {S:List Nat} {w w':uA} {A:Option mB} {c:Nat} {xs:List α} (h:yB enc w A c xs) (hc:fD S w w') (hne:xs=[]\/∀ x ∈ zB A,x ∉ S):yB enc w' A c xs:=by
 rcases hne with rfl | hne
 ·exact ⟨.inl rfl,h.cap,h.none_,h.max⟩
 ·exact h.chg hc hne
theorem yB.blk {α:Type} {enc:α -> List uB} (he:∀ x,enc x≠[]) {w:uA} {A:Option mB} {c:Nat} {xs:List α} (h:yB enc w A c xs):xs=[]\/∀ x ∈ zB A,x<w.heap.size:=by
 rcases h.row with h | ⟨b,off,rfl,hb,_⟩
 ·left
  cases xs with
  | nil=>rfl
  | cons x xs=>rw [vK] at h;exact absurd (List.append_eq_nil_iff.mp h).1 (he x)
 ·right
  intro x hx
  simp [zB] at hx
  omega
def zOy:uB -> Nat
 | .slice _ n _=>n
 | _=>0
def gZ (ns:List Nd) (alive:List Int):Nat -> List Ld -> List Int -> List Int
 | 0,_,told=>told
 | m+1,lds,told=>if (yM ns alive lds told).2 then gZ ns alive m (((yM ns alive lds told).1,kF lds (yM ns alive lds told).1+1) :: lds) (told ++ [(yM ns alive lds told).1]) else told
theorem zDa (xs:List Ld) (node b:Int) (hb:0<=b) (h:∀ x ∈ xs,x.2<=b):kF xs node<=b:=by
 unfold kF
 split
 ·exact hb
 ·by_cases hk:(bE (fun x:Ld=>decide (x.1=node)) xs 0).toNat<xs.length
  ·rw [pB,List.getElem?_eq_getElem hk,Option.getD_some]
   exact h _ (List.getElem_mem hk)
  ·rw [pB,List.getElem?_eq_none (by omega),Option.getD_none]
   exact hb
theorem zRB (base c V:Nat) (A:Option mB) (xs:List Ld) (x:Ld) (w:uA) (hbase:base<=w.heap.size) (ho:w.ownsRow base 202 2 (.slice A xs.length c) xs.length (flat zV xs)) (hV:w.heap[V]?=yA (.cells #[x.1,x.2] 202)) (hne:V ∉ zB A) (hs:xs.length<=1000000) :
  iA prog 123 #[.slice A xs.length c,.int .i64 0,.slice (yA ⟨V,0,none⟩) 1 1] w fun e w'=>∃ A' c',e=.returned (.slice A' (xs.length+1) c')/\w'.ownsRow base 202 2 (.slice A' (xs.length+1) c') (xs.length+1) (flat zV (x :: xs))/\Below base w w':=by
 have h:=zGc base c xs.length 0 V A (flat zV xs) [.int .i64 x.1,.int .i64 x.2] w hbase ho hV hne rfl (jF zHb xs) (fun u hu=>by simp at hu;rcases hu with rfl | rfl <;> rfl) (by omega) hs
 have hA:=qC ho
 refine h.mono ?_
 rintro e w' ⟨A',c',rfl,own,hc,-⟩
 refine ⟨A',c',rfl,?_,hc.to_below (fun y hy=>(hA y hy).1) hbase⟩
 rw [vK]
 simpa [zV] using own
theorem zOB (A B C : Option mB) (a b c : Nat) (ns : List Nd) (alive : List Int) (loads : List Ld) (N : Nat) (w : uA) (h : yB qH w A a ns) (h2 : yB kG w B b alive) (h3 : yB zV w C c loads) (ho : jH 0 ns = true) (hl : ∀ x ∈ loads, 0 <= x.2 /\ x.2 <= 1000) (hll : loads.length <= 1000) (hN : N <= 1000) : iA prog 59 #[.slice A ns.length a, .slice B alive.length b, .slice C loads.length c, .slice none 0 0, (N : Int)] w (mD 3 1 (gZ ns alive N loads []).length (flat kG (gZ ns alive N loads [])) w) := by
 have HCI:jC (∀ W,iA prog 121 #[.slice none 0 0] W (mD 3 1 0 (flat kG []) W)):=fA fun W=>jT none 0 0 (flat kG []) W (.inl rfl) (fun _=>rfl) rfl (jF cV []) (by omega)
 have HT:jC (∀ (lds:List Ld) (hs:List Int) (C D:Option mB) (c d:Nat) (W:uA),Below w.heap.size w W -> yB zV W C c lds -> yB kG W D d hs -> (∀ x ∈ lds,0<=x.2) -> iA prog 122 #[.slice A ns.length a,.slice B alive.length b,.slice C lds.length c,.slice D hs.length d] W fun e w'=>e=.returned (.tuple #[.int .i64 (yM ns alive lds hs).1,.bool (yM ns alive lds hs).2])/\Below W.heap.size W w'):=fA fun lds hs C D c d W hb f1 f2 hn=>zFo A B C D a b c d ns alive lds hs W (h.below hb) (h2.below hb) f1 f2 ho hn
 have HL:jC (yB zV w C c loads):=fA h3
 have HLB:jC (loads=[]\/∀ x ∈ zB C,x<w.heap.size):=fA (h3.blk (fun x e=>by cases e))
 have HRG:jC (∀ x ∈ loads,0<=x.2/\x.2<=1000+((0:Nat):Int)):=fA (fun x hx=>by have:=hl x hx;omega)
 obtain ⟨out,hout⟩:∃ out,out=gZ ns alive N loads []:=⟨_,rfl⟩
 have HZ:jC (out=gZ ns alive (N - 0) loads []):=fA hout
 rw [<- hout]
 clear h h2 h3 ho hl hout
 go_enter func59,ntmps59
 go_wp2_with (go_at_call 121;refine (HCI.out _).mono ?_;rintro e w1 ⟨H0,ch0,rfl,own0,hb1⟩)
 have HO0:=fA own0
 clear own0
 go_loopw [2,3,11,12,13] (fun v2 v3 v11 v12 v13 wr=>∃ (k:Nat) (lds:List Ld) (told:List Int) (C T H:Option mB) (c ct ch:Nat),k<=N/\v2=.slice C lds.length c/\v3=.slice H k ch/\v11=.slice T k ct/\jC (told.length=k)/\lds.length<=1000+k/\jC (out=gZ ns alive (N - k) lds told)/\jC (yB zV wr C c lds)/\jC (lds=[]\/∀ x ∈ zB C,x ∉ zB T/\x ∉ zB H)/\jC (∀ x ∈ zB T,x ∉ zB H)/\jC (∀ x ∈ lds,0<=x.2/\x.2<=1000+(k:Int))/\jC (wr.ownsRow w.heap.size 3 1 (.slice T k ct) k (flat kG told))/\jC (wr.ownsRow w.heap.size 3 1 (.slice H k ch) k (flat kG told))/\Below w.heap.size w wr) (fun _ _ v11 _ _ _=>N - zOy v11)
 case atStart=>exact ⟨0,loads,[],C,none,H0,c,0,ch0,by omega,rfl,rfl,rfl,fA rfl,by omega,HZ,fA (HL.out.below hb1),fA (by rcases HLB.out with h | h;exact .inl h;exact .inr fun x hx=>⟨fun q=>(by cases q),fun q=>by have:=(qC HO0.out x q).1;have:=h x hx;omega⟩),fA (fun x hx=>by cases hx),HRG,nB _ _ _ _,HO0,hb1⟩
 case round =>
  clear hb1 HO0
  obtain ⟨k,lds,told,C,T,H,c,ct,ch,hk,rfl,rfl,rfl,HTL,hll2,HX,HF,HCB,HTH,HR,HO1,HO2,hw⟩:=hrel
  have hk0:(0:Int)<=(k:Int):=by omega
  by_cases hlt:k<N
  ·have hk1:(k:Int)<(N:Int):=by omega
   have HTG:=fA (HT.out lds told C H c ch wr hw HF.out (by have q:=HO2.out;rw [<- HTL.out] at q;exact yB.of_own q (by have:=HTL.out;omega)) (fun x hx=>(HR.out x hx).1))
   rw [HTL.out] at HTG
   have hX:=HX.out
   rw [show N - k=(N - (k+1))+1 by omega] at hX
   unfold gZ at hX
   have HLP:jC (∀ t W,yB zV W C c lds -> iA prog 125 #[.slice C lds.length c,.int .i64 t] W fun e w'=>e=.returned (.int .i64 (kF lds t))/\Below W.heap.size W w'):=fA fun t W f=>eQ C c lds t W f
   have HLR:jC (∀ t,0<=kF lds t/\kF lds t<=1000+(k:Int)):=fA fun t=>⟨uR lds t (fun x hx=>(HR.out x hx).1),zDa lds t _ (by omega) (fun x hx=>(HR.out x hx).2)⟩
   generalize yM ns alive lds told=tg at *
   obtain ⟨t,is⟩:=tg
   simp only at HTG hX
   have HX2:=fA hX
   clear hX HX
   cases is with
   | false =>
    simp only [Bool.false_eq_true,if_false] at HX2
    go_wp2_with (go_at_call 122;refine HTG.out.mono ?_;rintro e w3 ⟨rfl,hb3⟩)
    go_ret
    have e2:=HX2.out
    have e1:=HTL.out
    subst e2
    subst e1
    exact ⟨T,ct,rfl,jB HO1.out hb3,hw.trans (hb3.mono hw.size)⟩
   | true =>
    simp only [if_true] at HX2
    have hlr:=HLR.out t
    have HLPT:=fA (HLP.out t)
    generalize kF lds t=l at *
    go_upto_region 6 with (go_at_call 122;refine HTG.out.mono ?_;rintro e w3 ⟨rfl,hb3⟩)
    have hw3:=hw.trans (hb3.mono hw.size)
    have HP1:=fA (jB HO1.out hb3)
    have HP2:=fA (jB HO2.out hb3)
    have HF3:=fA (HF.out.below hb3)
    have hk2:k<=1000:=by omega
    go_upto_region 7 with (first
     | (at_builtin;refine yC rfl (.tmp 30) (.tmp 32) rfl tN w.heap.size (.slice T k ct) k _ (by rfl) (jB HP1.out (wA w3 _)) (yA ⟨w3.heap.size,0,none⟩) 1 1 [.int .i64 t] (by rfl) rfl (dC.new w3 _ _) (by simp [qE]) (by unfold maxLen;omega) (by omega) (pA hw3.size (wA w3 _).size) (fun h=>by cases h) ?_;intro T1 ct1 w4 hown1 hg1 hat1;have hb4:=fA (Below.appended (hw3.trans ((wA w3 _).mono hw3.size)) (jB HP1.out (wA w3 _)) hg1 (pA hw3.size (wA w3 _).size) (mA _));have hc1:=fA (tE hg1);have ht1:=fA (wF hat1);have Q1:=fA hown1;have Q2:=fA (xE (jB HP2.out (wA w3 (.cells #[t] 3))) hc1.out (fun x hx hq=>HTH.out x hq hx));have F4:=fA ((HF3.out.below (wA w3 (.cells #[t] 3))).chg2 hc1.out (HCB.out.imp id fun f x hx=>(f x hx).1));clear hown1 hg1 hat1)
     | (at_builtin;refine yC rfl (.tmp 34) (.tmp 36) rfl tN w.heap.size (.slice H k ch) k _ (by rfl) (jB Q2.out (wA w4 _)) (yA ⟨w4.heap.size,0,none⟩) 1 1 [.int .i64 t] (by rfl) rfl (dC.new w4 _ _) (by simp [qE]) (by unfold maxLen;omega) (by omega) (pA hb4.out.size (wA w4 _).size) (fun h=>by cases h) ?_;intro H1 ch1 w5 hown2 hg2 hat2))
    have hb5:=Below.appended (hb4.out.trans ((wA w4 (.cells #[t] 3)).mono hb4.out.size)) (jB Q2.out (wA w4 (.cells #[t] 3))) hg2 (pA hb4.out.size (wA w4 (.cells #[t] 3)).size) (mA _)
    have hc2:=tE hg2
    have ht2:=wF hat2
    have hs3:(w3.alloc (.cells #[t] 3)).heap.size=w3.heap.size+1:=by simp
    have hs4:(w4.alloc (.cells #[t] 3)).heap.size=w4.heap.size+1:=by simp
    have hs34:=hc1.out.size
    have R2:=fA hown2
    have R1:=fA (xE (jB Q1.out (wA w4 (.cells #[t] 3))) hc2 (fun x hx hq=>by
     rcases ht1.out x hx with q | q
     ·exact HTH.out x q hq
     ·have:=(qC HP2.out x hq).2;omega))
    have HF5:=fA ((F4.out.below (wA w4 (.cells #[t] 3))).chg2 hc2 (HCB.out.imp id fun f x hx=>(f x hx).2))
    have HD5:jC (∀ x ∈ zB T1,x ∉ zB H1):=fA (fun x hx hq=>by
     have r1:=(qC Q1.out x hx).2
     rcases ht1.out x hx with q | q <;> rcases ht2 x hq with q2 | q2
     ·exact HTH.out x q q2
     ·have:=(qC HP1.out x q).2;omega
     ·have:=(qC HP2.out x q2).2;omega
     ·omega)
    clear hs3 hs4 hs34 hown2 hg2 hat2 hc2 ht2 F4 Q1 Q2
    have hmx:=HF5.out.max
    have HC5:=fA (zQi C c lds.length (flat zV lds) w5 HF5.out.row HF5.out.none_ (jD zOw lds) (jF zHb lds) hmx)
    have hld:0<=l/\l<=2000:=by omega
    have HBS:=fA hb5
    go_wp2_with (first
     | (go_at_call 124;refine HC5.out.mono ?_;rintro e w6 ⟨A6,c6,rfl,own6,hb6⟩;have O6:=fA own6;have hb6':=hb5.trans (hb6.mono hb5.size);clear own6)
     | (go_at_call 125;refine (HLPT.out _ (HF5.out.below hb6)).mono ?_;rintro e w7 ⟨rfl,hb7⟩;have hal7:=wA w7 (.cells #[t,.int .i64 (l+1)] 202);have HI7:=fA (zRB w5.heap.size c6 w7.heap.size A6 lds (t,l+1) (w7.alloc (.cells #[t,.int .i64 (l+1)] 202)) (pA hb6.size (pA hb7.size hal7.size)) (jB (jB O6.out hb7) hal7) (rB w7 _) (fun q=>by have:=(qC O6.out _ q).2;have:=hb7.size;omega) hmx);have hb57:=hb6.trans ((hb7.trans (hal7.mono hb7.size)).mono hb6.size))
     | (go_at_call 123;refine HI7.out.mono ?_;rintro e w9 ⟨A9,c9,rfl,own9,hb9⟩;have hb59:=hb57.trans hb9))
    have hw9:=hb5.trans (hb59.mono hb5.size)
    go_roundw
    case rel=>exact ⟨k+1,(t,l+1) :: lds,told ++ [t],A9,T1,H1,c9,ct1,ch1,by omega,rfl,rfl,rfl,fA (by rw [List.length_append,HTL.out];rfl),by simp;omega,fA HX2.out,fA (yB.of_own own9 (by simp;omega)),fA (.inr fun x hx=>by have q:=(qC own9 x hx).1;exact ⟨fun h=>by have:=(qC R1.out x h).2;omega,fun h=>by have:=(qC R2.out x h).2;omega⟩),HD5,fA (fun x hx=>by rcases List.mem_cons.mp hx with rfl | hx;exact ⟨by simp;omega,by simp;omega⟩;have:=HR.out x hx;exact ⟨this.1,by omega⟩),fA (by rw [uD];exact jB R1.out hb59),fA (by rw [uD];exact jB R2.out hb59),hw9⟩
    case measure=>simp [zOy];omega
  have hk1:¬ (k:Int)<(N:Int):=by omega
  have hke:k=N:=by omega
  subst hke
  go_wp2
  go_ret
  have hX:=HX.out
  rw [Nat.sub_self] at hX
  unfold gZ at hX
  have e1:=HTL.out
  subst hX
  subst e1
  exact ⟨T,ct,rfl,HO1.out,hw⟩
def zLd (xs:List Le) (each id:Int):Bool:=(rI .f64).order (fN (zN xs id)) (pK .f64 each) == yA .gt || (FloatKind.format .f64).order (fN (zN xs id)) (pK .f64 each) == yA .eq
def zZ (xs:List Le) (each:Int):List Int -> Int × Bool
 | []=>(0,false)
 | x :: ids=>if zLd xs each x then zZ xs each ids else (x,true)
def zCR (A:Option mB) (c n:Nat) (B:Option mB) (d:Nat) (ids:List Int) (each:Int) (f:List Int -> Int × Bool) (R:Int × Bool) (w:uA) (a':Act) (wr:uA):Prop :=
 ∃ (i:Nat) (u:Nat -> uB),i<=ids.length/\jC (f (ids.drop i)=R)/\Below w.heap.size w wr/\a'={ tmps:=#[.slice A n c,.slice B ids.length d,.int .i64 each,vB,vB,vB,.int .i64 0,.bool false,.int .i64 (i:Int),u 9,u 10,u 11,u 12,u 13,u 14,u 15,u 16,u 17,u 18,u 19,u 20,u 21,u 22,u 23,u 24,u 25,u 26,u 27,u 28],defers:=[] }
theorem zCR.mk {A:Option mB} {c n:Nat} {B:Option mB} {d:Nat} {ids:List Int} {each:Int} {f:List Int -> Int × Bool} {R:Int × Bool} {w:uA} {a':Act} {wr:uA} {i:Nat} (h1:i<=ids.length) (h2:f (ids.drop i)=R) (h3:Below w.heap.size w wr)
  (h4:a'={ tmps:=#[.slice A n c,.slice B ids.length d,.int .i64 each,vB,vB,vB,.int .i64 0,.bool false,.int .i64 (i:Int),a'.tmps.getD 9 vB,a'.tmps.getD 10 vB,a'.tmps.getD 11 vB,a'.tmps.getD 12 vB,a'.tmps.getD 13 vB,a'.tmps.getD 14 vB,a'.tmps.getD 15 vB,a'.tmps.getD 16 vB,a'.tmps.getD 17 vB,a'.tmps.getD 18 vB,a'.tmps.getD 19 vB,a'.tmps.getD 20 vB,a'.tmps.getD 21 vB,a'.tmps.getD 22 vB,a'.tmps.getD 23 vB,a'.tmps.getD 24 vB,a'.tmps.getD 25 vB,a'.tmps.getD 26 vB,a'.tmps.getD 27 vB,a'.tmps.getD 28 vB],defers:=[] }):zCR A c n B d ids each f R w a' wr :=
 ⟨i,fun k=>a'.tmps.getD k vB,h1,h2,h3,h4⟩
theorem zLT (A : Option mB) (c : Nat) (xs : List Le) (B : Option mB) (d : Nat) (ids : List Int) (each : Int) (w : uA) (h : yB vU w A c xs) (h2 : yB kG w B d ids) (hl : xs.length <= 100) : iA prog 182 #[.slice A xs.length c, .slice B ids.length d, each] w fun e w' => e = .returned (.tuple #[.int .i64 (zZ xs each ids).1, .bool (zZ xs each ids).2]) /\ Below w.heap.size w w' := by
 have HT:jC (∀ id W,Below w.heap.size w W -> iA prog 246 #[.slice A xs.length c,.int .i64 id] W fun e w'=>e=.returned (.complex .f64 (fN (zN xs id)) (fN (zQ xs id)))/\Below W.heap.size W w'):=fA fun id W hb=>zDU A c xs id W (h.below hb) hl
 have HI:=fA h2
 have hmx:=h2.max
 have hb0:=xC w
 clear h h2
 obtain ⟨R,hR⟩:∃ R,zZ xs each ids=R:=⟨_,rfl⟩
 have HAT:jC (∀ i (hi:i<ids.length),zZ xs each (ids.drop i)=if zLd xs each (ids[i]'hi) then zZ xs each (ids.drop (i+1)) else (ids[i]'hi,true)):=fA fun i hi=>by rw [List.drop_eq_getElem_cons hi];rfl
 have HEND:jC (zZ xs each []=(0,false)):=fA rfl
 have HB:jC (∀ id,zLd xs each id=((rI .f64).order (fN (zN xs id)) (pK .f64 each) == yA .gt || (FloatKind.format .f64).order (fN (zN xs id)) (pK .f64 each) == yA .eq)):=fA fun id=>rfl
 have HR0:jC (zZ xs each (ids.drop 0)=R):=hR
 rw [hR]
 generalize zZ xs each=f at *
 generalize zLd xs each=bz at *
 clear hR
 go_enter func182,ntmps182
 go_wp2
 refine zAm 0 (zCR A c xs.length B d ids each f R w) (fun a' _=>ids.length - (intOf (a'.tmps.getD 8 vB)).toNat) rfl ?_ ?_
 ·rintro a' wr ⟨i,u,hi,hX,hw,rfl⟩
  clear HR0
  by_cases hlt:i<ids.length
  ·have hi1:((i:Int) == (ids.length:Int))=false:=beq_eq_false_iff_ne.2 (by omega)
   have hi2:(i:Int)<(ids.length:Int):=by omega
   have hi0:(0:Int)<=(i:Int):=by omega
   have hA:=HAT.out i hlt
   rw [hX.out] at hA
   obtain ⟨b,off,rfl,blt,d0⟩:=uJ (HI.out.below hw) hlt
   generalize (ids[i]'hlt)=x at *
   rw [HB.out] at hA
   have HA:=fA hA
   have HTX:=fA (fun W hb=>HT.out x W hb)
   clear hA hX
   generalize fN (zN xs x)=s at *
   generalize fN (zQ xs x)=t at *
   go_wp2_with (go_at_call 246;refine (HTX.out _ hw).mono ?_;rintro e w1 ⟨rfl,hb1⟩;have d1:=((bcell hb1).1 b (off+i) blt).trans d0)
   ·have e1:=HA.out
    rw [if_pos (by simp only [Bool.or_eq_true];assumption)] at e1
    refine wp_goto (gG rfl (gG (zCR.mk (i:=i+1) (by omega) e1.symm (hw.trans (hb1.mono hw.size)) (by rfl)) ?_))
    show ids.length - ((i:Int)+1).toNat<ids.length - (i:Int).toNat
    omega
   ·have e1:=HA.out
    rw [if_neg (by simp_all)] at e1
    simp only [vP]
    go_ret2
    rw [e1]
    exact ⟨rfl,hw.trans (hb1.mono hw.size)⟩
  ·have he:i=ids.length:=by omega
   subst he
   have hi1:((ids.length:Int) == (ids.length:Int))=true:=by simp
   go_wp2
   simp only [vP]
   go_ret2
   have:=hX.out
   rw [List.drop_of_length_le (mA _),HEND.out] at this
   rw [<- this]
   exact ⟨rfl,hw⟩
 ·intro hp
  go_wp2
  go_step3
  refine (by assumption:∀ (a:Act) (w:uA),_ -> _) _ _ (hp _ _ ?_)
  exact zCR.mk (i:=0) (by omega) HR0.out hb0 (by rfl)
abbrev zCb (a b c d:Int):Obj:=.cells #[a,b,c,d] 207
def zOv (cs:List Ch) (n:Nd):Ld:=(n.1,(zJG cs n.1:Int))
def gJ (cs:List Ch) (ns:List Nd):List Ld:=if jH 0 ns then ns.map (zOv cs) else []
theorem zOC {α β:Type} (f:α -> β) (xs:List α) {k:Nat} (hk:k<xs.length):(xs.take (k+1)).map f=(xs.take k).map f ++ [f (xs[k]'hk)]:=by rw [tB hk,List.map_append];rfl
theorem zCA (A : Option mB) (c : Nat) (cs : List Ch) (B : Option mB) (d : Nat) (ns : List Nd) (w : uA) (h : vM w A c cs) (h2 : yB qH w B d ns) : iA prog 60 #[.slice A cs.length c, .slice B ns.length d] w (mD 202 2 (gJ cs ns).length (flat zV (gJ cs ns)) w) := by
 have HM:=fA (zBB B d ns w h2)
 have HL:jC (∀ id W,Below w.heap.size w W -> iA prog 127 #[.slice A cs.length c,.int .i64 id] W fun e w'=>e=.returned (.int .i64 (zJG cs id:Int))/\Below W.heap.size W w'):=fA fun id W hb=>zLK A c cs id W (h.below hb)
 have HI:=fA h2
 have hmx:=h2.max
 unfold gJ
 clear h h2
 generalize jH 0 ns=m at *
 cases m with
 | false =>
  go_enter func60,ntmps60
  go_wp2_with (go_at_call 126;refine HM.out.mono ?_;rintro e w1 ⟨rfl,hb1⟩)
  go_ret
  exact ⟨none,0,rfl,nB _ _ _ _,hb1⟩
 | true =>
  rw [if_pos rfl,List.length_map]
  go_enter func60,ntmps60
  go_wp2_with (go_at_call 126;refine HM.out.mono ?_;rintro e w1 ⟨rfl,hb1⟩)
  go_loopw [5,7,13] (fun v5 v7 i wr=>∃ (k c:Nat) (A:Option mB),k<=ns.length/\v5=.slice A k c/\i=.int .i64 (k:Int)/\jC (wr.ownsRow w.heap.size 202 2 (.slice A k c) k (flat zV ((ns.take k).map (zOv cs))))/\Below w.heap.size w wr) (fun _ _ i _=>ns.length - (intOf i).toNat)
  case atStart=>exact ⟨0,0,none,by omega,rfl,rfl,nB _ _ _ _,hb1⟩
  case round =>
   clear hb1
   obtain ⟨k,c2,A2,hk,rfl,rfl,HO,hw⟩:=hrel
   have hk0:(0:Int)<=(k:Int):=by omega
   by_cases hlt:k<ns.length
   ·have hk1:(k:Int)<(ns.length:Int):=by omega
    have HF:=fA (zOC (zOv cs) ns hlt)
    obtain ⟨b,off,rfl,blt,d0,d1,d2,d3⟩:=pR (HI.out.below hw) hlt
    generalize (ns[k]'hlt)=x at *
    obtain ⟨x1,x2,x3,x4⟩:=x
    have HLX:=fA (HL.out x1)
    have HLE:jC (zOv cs (x1,x2,x3,x4)=(x1,(zJG cs x1:Int))):=fA rfl
    generalize zJG cs x1=l at *
    simp only at d0 d1 d2 d3
    have hal:=wA wr (zCb x1 x2 x3 x4)
    obtain ⟨e0,e1,e2,e3,_⟩:=nH (rB wr (zCb x1 x2 x3 x4))
    have gX:=rB wr (zCb x1 x2 x3 x4)
    have hw0:=hw.trans (hal.mono hw.size)
    have HO2:=fA (jB HO.out hal)
    go_upto_region 7 with fail
    generalize wr.alloc (zCb x1 x2 x3 x4)=W2 at *
    go_region_held3 (fun W=>W.cell? ⟨wr.heap.size,0,none⟩=yA (.int .i64 x1)) (first | exact e0 | exact p0 | exact q0 | go_keep) (first
     | ((go_at_call 127;refine (HLX.out _ hw0.drew).mono ?_;rintro e w3 ⟨rfl,hb3⟩;have g3:=kA hb3 (iB gX);have p0:w3.cell? ⟨wr.heap.size,0,none⟩=yA (.int .i64 x1):=jA g3 0;have hw3:=hw0.drew.trans (hb3.mono hw0.size);have O3:=fA (jB (sI HO2.out) hb3)))
     | (refine lN rfl (.tmp 17) (.tmp 25) rfl zEy w.heap.size (.slice A2 k c2) k _ (by rfl) (jB O3.out (wA w3 _)) (yA ⟨w3.heap.size,0,none⟩) 1 1 [.int .i64 x1,.int .i64 (l:Int)] (by rfl) rfl (dC.new w3 _ _) (zHb (x1,(l:Int))) (by unfold maxLen;omega) (by omega) (pA hw3.size (wA w3 _).size) (fun h=>by cases h) ?_;intro a1 c1 w4 hown hg hat;have q0:w4.cell? ⟨wr.heap.size,0,none⟩=yA (.int .i64 x1):=((tE hg).cell (o:=0) (eB (zF g3 _)) (fun hc=>by have:=(qC HO.out _ hc).2;omega)).trans (jA (zF g3 _) 0);have hb4:=Below.appended (hw3.trans ((wA w3 _).mono hw3.size)) (jB O3.out (wA w3 _)) hg (pA hw3.size (wA w3 _).size) (mA _)))
    all_goals go_wp2
    all_goals go_roundw
    case rel=>exact ⟨k+1,c1,a1,by omega,rfl,by go_num,fA (by rw [HF.out,uD,HLE.out];exact hown),hb4⟩
    case measure=>simp [intOf];omega
   have hk1:¬ (k:Int)<(ns.length:Int):=by omega
   have hke:k=ns.length:=by omega
   subst hke
   rw [zC (mA _)] at HO
   go_wp2
   go_ret
   exact ⟨A2,c2,rfl,HO.out,hw⟩
def zLC (alive:List Int) (n:Nd):Bool := !decide (n.2.2.2=0) || !ctn alive n.1
theorem zOa (B:Nat) (A:Option mB) (c:Nat) (alive:List Int) (W0 w:uA) (h:yB kG W0 A c alive) (hl:B<W0.heap.size) (hB:W0.cell? ⟨B,0,none⟩=yA (.slice A alive.length c)) (hb:Below W0.heap.size W0 w):xQ W0.heap.size 318 #[(B,0)] (fun x:Nd=>Value.agg (qH x).toArray) (zLC alive) w:=by
 rintro W ⟨x1,x2,x3,x4⟩ hW
 have h0:=hb.trans hW
 have hBW:=((bcell h0).1 B 0 hl).trans hB
 have hlW:=Nat.lt_of_lt_of_le hl h0.size
 have HC:jC (∀ W',Below W0.heap.size W0 W' -> iA prog 68 #[.slice A alive.length c,x1] W' fun e w'=>e=.returned (.bool (ctn alive x1))/\w'=W'):=fA fun W' hb=>pQ A c alive x1 W' (h.below hb)
 show iA prog 318 #[.agg #[x1,x2,x3,x4],.pointer (yA ⟨B,0,none⟩)] W fun e w'=>e=.returned (.bool (!decide (x4=0) || !ctn alive x1))/\Below W.heap.size W w'
 have hal:=wA W (zCb x1 x2 x3 x4)
 have HCB:=fA (HC.out _ (h0.trans (hal.mono h0.size)))
 generalize ctn alive x1=r at *
 clear h hB hW HC
 by_cases h4:x4=0
 ·subst h4
  go_enter func318,ntmps318
  go_wp2_with (go_at_call 68;refine HCB.out.mono ?_;rintro e w1 ⟨rfl,hx⟩;subst hx)
  go_ret
  exact ⟨bC (by simp),hal⟩
 ·go_enter func318,ntmps318
  go_wp2_with (go_at_call 68;refine HCB.out.mono ?_;rintro e w1 ⟨rfl,hx⟩;subst hx)
  go_ret
  exact ⟨bC (by simp [h4]),hal⟩
def zGY (ns:List Nd) (alive:List Int):List Nd:=if jH 0 ns then nE (zLC alive) ns else []
def zRn (ns:List Nd) (ls:List Ld) (w:uA) (en:Ending) (w':uA):Prop:=∃ A c B d,en=.returned (.tuple #[.slice A ns.length c,.slice B ls.length d])/\yB qH w' A c ns/\yB zV w' B d ls/\Below w.heap.size w w'
theorem zQt (A:Option mB) (a:Nat) (cs:List Ch) (B:Option mB) (b:Nat) (ns:List Nd) (C:Option mB) (c:Nat) (alive:List Int) (w:uA) (h:vM w A a cs) (h2:yB qH w B b ns) (h3:yB kG w C c alive):iA prog 254 #[.slice A cs.length a,.slice B ns.length b,.slice C alive.length c] w (zRn (zGY ns alive) (gJ cs (zGY ns alive)) w):=by
 have hmx:=h2.max
 obtain ⟨W,hW⟩:∃ W,W=w.alloc (.cells #[.slice C alive.length c] 63):=⟨_,rfl⟩
 have hb:Below w.heap.size w W:=by rw [hW];exact wA _ _
 have g1:W.heap[w.heap.size]?=yA (.cells #[.slice C alive.length c] 63):=by rw [hW];exact rB _ _
 have HM:jC (iA prog 126 #[.slice B ns.length b] W fun e w'=>e=.returned (.bool (jH 0 ns))/\Below W.heap.size W w'):=fA (zBB B b ns W (h2.below hb))
 have HCL:jC (∀ W',Below w.heap.size w W' -> iA prog 190 #[.slice B ns.length b] W' (mD 207 4 ns.length (flat qH ns) W')):=fA fun W' hb=>zEd B b ns.length (flat qH ns) W' (h2.row.below hb) h2.none_ (jD yO ns) (jF zCD ns) hmx
 have HDF:jC (∀ (w1:uA) (A1:Option mB) (c1:Nat),Below W.heap.size W w1 -> w1.ownsRow W.heap.size 207 4 (.slice A1 ns.length c1) ns.length (flat qH ns) -> iA prog 319 #[.slice A1 ns.length c1,.func (.func 318) #[] #[.pointer (yA ⟨w.heap.size,0,none⟩)]] w1 (wY qH W.heap.size 207 4 A1 c1 (nE (zLC alive) ns) w1)):=fA fun w1 A1 c1 hb1 ho=>zJN A1 c1 ns W.heap.size 318 #[.pointer (yA ⟨w.heap.size,0,none⟩)] (enters_of func318 (by kernel_rfl) rfl) (zLC alive) w1 hb1.size ho hmx (zOa w.heap.size C c alive W w1 (h3.below hb) (eB g1) (jA g1 0) hb1)
 have HL:jC (∀ (W':uA) (D:Option mB) (d:Nat) (l:List Nd),Below w.heap.size w W' -> yB qH W' D d l -> iA prog 60 #[.slice A cs.length a,.slice D l.length d] W' (mD 202 2 (gJ cs l).length (flat zV (gJ cs l)) W')):=fA fun W' D d l hb f=>zCA A a cs D d l W' (h.below hb) f
 have HLN:jC (∀ l,(gJ cs l).length<=l.length):=fA fun l=>by unfold gJ;split <;> simp
 have HW:=fA hW
 have hkl:=wJ (zLC alive) ns
 have HZ:jC (gJ cs []=[]):=fA (by unfold gJ;simp)
 unfold zGY
 clear h h2 h3 g1 hW
 generalize jH 0 ns=m at *
 generalize nE (zLC alive) ns=ys at *
 cases m with
 | false =>
  rw [if_neg (by decide),HZ.out]
  go_enter func254,ntmps254
  go_wp2_with (go_at_call 126;rw [<- HW.out];refine HM.out.mono ?_;rintro e w1 ⟨rfl,hb1⟩)
  go_ret2
  exact ⟨none,0,none,0,rfl,yB.nil,yB.nil,hb.trans (hb1.mono hb.size)⟩
 | true =>
  rw [if_pos rfl]
  have HLY:=fA (fun W' D d=>HL.out W' D d ys)
  have hly:=HLN.out ys
  generalize gJ cs ys=zs at *
  go_enter func254,ntmps254
  go_wp2_with (first
   | (go_at_call 126;rw [<- HW.out];refine HM.out.mono ?_;rintro e w1 ⟨rfl,hb1⟩;have hw1:=hb.trans (hb1.mono hb.size))
   | (go_at_call 190;refine (HCL.out _ hw1).mono ?_;rintro e w2 ⟨A2,c2,rfl,own2,hb2⟩)
   | (go_at_call 319;refine (HDF.out w2 A2 c2 (hb1.trans (hb2.mono hb1.size)) (oC own2 hb1.size)).mono ?_;rintro e w3 ⟨rfl,own3,hb3⟩;have hb13:=(hb1.trans (hb2.mono hb1.size)).trans hb3;have hw3:=hb.trans (hb13.mono hb.size);have f3:=yB.of_own (enc:=qH) own3 (by omega))
   | (go_at_call 60;refine (HLY.out _ _ _ hw3 f3).mono ?_;rintro e w4 ⟨A4,c4,rfl,own4,hb4⟩))
  go_ret2
  exact ⟨A2,c2,A4,c4,rfl,f3.below hb4,yB.of_own own4 (by omega),hw3.trans (hb4.mono hw3.size)⟩
abbrev zRg (bv lv dv nv cv sv:uB) (r:Ru) (t:Int) (av ev ov xv:uB):Obj:=.cells #[bv,lv,dv,nv,cv,sv,r.1,r.2.1,r.2.2.1,r.2.2.2.1,r.2.2.2.2.1,r.2.2.2.2.2,t,av,ev,ov,xv] 180
def zBf (l:List Ld) (x:Le):List Ld:=(x.2.2.2.1,kF l x.2.2.2.1+1) :: l
def zH (cs:List Ch) (ns:List Nd) (ls:List Le):List Ld:=ls.foldl zBf (gJ cs ns)
theorem zIo (cs:List Ch) (ns:List Nd) (ls:List Le) {k:Nat} (hk:k<ls.length):zH cs ns (ls.take (k+1))=zBf (zH cs ns (ls.take k)) (ls[k]'hk):=by
 unfold zH
 rw [tB hk,List.foldl_append]
 rfl
theorem zGf (cs:List Ch) (ns:List Nd) (B:Int) (hB:(cs.length:Int)<=B):∀ (ls:List Le) (l:List Ld) (k:Nat),(∀ x ∈ l,0<=x.2/\x.2<=B+k) -> l.length<=ns.length+k -> (∀ x ∈ ls.foldl zBf l,0<=x.2/\x.2<=B+(k+ls.length:Nat))/\(ls.foldl zBf l).length<=ns.length+(k+ls.length)
 | [],l,k,h,h2=>⟨h,h2⟩
 | x :: ls, l, k, h, h2 => by
  have h0:=uR l x.2.2.2.1 (fun y hy=>(h y hy).1)
  have h1:=zDa l x.2.2.2.1 (B+k) (by omega) (fun y hy=>(h y hy).2)
  have:=zGf cs ns B hB ls (zBf l x) (k+1) (fun y hy=>by
   unfold zBf at hy
   rcases List.mem_cons.mp hy with rfl | hy
   ·exact ⟨by simp;omega,by simp;omega⟩
   ·have:=h y hy;omega) (by unfold zBf;rw [qD];omega)
  rw [List.foldl_cons,qD,show k+(ls.length+1)=k+1+ls.length by omega]
  exact this
theorem zQl (cs:List Ch) (id:Int):zJG cs id<=cs.length:=List.length_filter_le _ _
theorem uZ (cs:List Ch) (ns:List Nd):(∀ x ∈ gJ cs ns,0<=x.2/\x.2<=(cs.length:Int))/\(gJ cs ns).length<=ns.length:=by
 unfold gJ
 split
 ·refine ⟨fun x hx => ?_,by simp⟩
  obtain ⟨n,_,rfl⟩:=List.mem_map.mp hx
  have:=zQl cs n.1
  simp only [zOv]
  omega
 ·exact ⟨fun x hx=>(by cases hx),Nat.zero_le _⟩
theorem zCB (cs:List Ch) (ns:List Nd) (ls:List Le):(∀ x ∈ zH cs ns ls,0<=x.2/\x.2<=(cs.length:Int)+(ls.length:Int))/\(zH cs ns ls).length<=ns.length+ls.length:=by
 have h:=uZ cs ns
 have:=zGf cs ns (cs.length:Int) (Int.le_refl _) ls (gJ cs ns) 0 (fun x hx=>by have:=h.1 x hx;omega) (by have:=h.2;omega)
 simpa [zH] using this
theorem zRC (base c V:Nat) (A:Option mB) (xs:List Ld) (x:Ld) (w:uA) (hbase:base<=w.heap.size) (ho:w.ownsRow base 202 2 (.slice A xs.length c) xs.length (flat zV xs)) (hV:w.heap[V]?=yA (.cells #[x.1,x.2] 202)) (hne:V ∉ zB A) (hs:xs.length<=1000000) :
  iA prog 123 #[.slice A xs.length c,.int .i64 0,.slice (yA ⟨V,0,none⟩) 1 1] w fun e w'=>∃ A' c',e=.returned (.slice A' (xs.length+1) c')/\w'.ownsRow base 202 2 (.slice A' (xs.length+1) c') (xs.length+1) (flat zV (x :: xs))/\Below base w w'/\fD (zB A) w w':=by
 have h:=zGc base c xs.length 0 V A (flat zV xs) [.int .i64 x.1,.int .i64 x.2] w hbase ho hV hne rfl (jF zHb xs) (fun u hu=>by simp at hu;rcases hu with rfl | rfl <;> rfl) (by omega) hs
 have hA:=qC ho
 refine h.mono ?_
 rintro e w' ⟨A',c',rfl,own,hc,-⟩
 refine ⟨A',c',rfl,?_,hc.to_below (fun y hy=>(hA y hy).1) hbase,hc⟩
 rw [vK]
 simpa [zV] using own
theorem zEN (D : Nat) (bv dv sv av ev ov xv : uB) (r : Ru) (t : Int) (lA nA cA : Option mB) (lc nc cc : Nat) (ls : List Le) (ns : List Nd) (cs : List Ch) (w : uA) (hD : w.heap[D]? = yA (zRg bv (.slice lA ls.length lc) dv (.slice nA ns.length nc) (.slice cA cs.length cc) sv r t av ev ov xv)) (h1 : yB vU w lA lc ls) (h2 : yB qH w nA nc ns) (h3 : vM w cA cc cs) (hl : ls.length <= 1000) (hn : ns.length <= 1000) (hcs : cs.length <= 1000) : iA prog 181 #[(D,0)] w (mD 202 2 (zH cs ns ls).length (flat zV (zH cs ns ls)) w) := by
 have HB:=fA (fun W (hb:Below w.heap.size w W)=>zCA cA cc cs nA nc ns W (h3.below hb) (h2.below hb))
 have HI:=fA h1
 have c1:=jA hD 1
 have c3:=jA hD 3
 have c4:=jA hD 4
 have hDl:=eB hD
 have hb0:=xC w
 have HRG:=fA (fun k=>zCB cs ns (ls.take k))
 have HSU:=fA (fun k (hk:k<ls.length)=>zIo cs ns ls hk)
 have HB0:jC (zH cs ns (ls.take 0)=gJ cs ns):=fA rfl
 clear h1 h2 h3 hD
 go_enter func181,ntmps181
 go_wp2_with fail
 go_region_held3 (fun V=>V.cell? ⟨D,4,none⟩=yA (.slice cA cs.length cc)/\V.cell? ⟨D,3,none⟩=yA (.slice nA ns.length nc)) (first | exact ⟨c4,c3⟩ | exact ⟨m0,m1⟩ | go_keep) (first
  | (go_at_call 60;refine (HB.out _ hb0.drew).mono ?_;rintro e w1 ⟨A1,c1',rfl,own1,hb1⟩;have b1:=hb0.drew.trans hb1;have m0:=((bcell b1).1 D 4 hDl).trans c4;have m1:=((bcell b1).1 D 3 hDl).trans c3;have k1:=((bcell b1).1 D 1 hDl).trans c1))
 all_goals go_wp2
 have O1:=fA (oC own1 (mA _))
 clear c1 c3 c4 m0 m1 k1 own1 hb1
 have HB1:=fA b1
 have hbl:=(uZ cs ns).2
 go_loopw [3,5,23] (fun v3 v5 i wr=>∃ (k m c:Nat) (A:Option mB),k<=ls.length/\v3=.slice A m c/\i=.int .i64 (k:Int)/\jC (m=(zH cs ns (ls.take k)).length)/\m<=2000/\jC (wr.ownsRow w.heap.size 202 2 (.slice A m c) m (flat zV (zH cs ns (ls.take k))))/\Below w.heap.size w wr) (fun _ _ i _=>ls.length - (intOf i).toNat)
 case atStart=>exact ⟨0,(gJ cs ns).length,c1',A1,by omega,rfl,rfl,fA rfl,by omega,O1,HB1.out⟩
 case round =>
  clear b1 O1 HB1
  obtain ⟨k,m,c,A,hk,rfl,rfl,hml,hm2,HO,hw⟩:=hrel
  have hk0:(0:Int)<=(k:Int):=by omega
  by_cases hlt:k<ls.length
  ·have hk1:(k:Int)<(ls.length:Int):=by omega
   have HS:=fA (HSU.out k hlt)
   have hrg:=HRG.out k
   have hrg1:=HRG.out (k+1)
   obtain ⟨b,off,rfl,blt,d0,d1,d2,d3,d4⟩:=zBd (HI.out.below hw) hlt
   generalize (ls[k]'hlt)=x at *
   obtain ⟨x1,x2,x3,x4,x5⟩:=x
   simp only at d0 d1 d2 d3 d4
   have HST:jC (zBf (zH cs ns (ls.take k)) (x1,x2,x3,x4,x5)=(x4,kF (zH cs ns (ls.take k)) x4+1) :: zH cs ns (ls.take k)):=fA rfl
   rw [sB] at hrg hrg1
   have hl0:=uR (zH cs ns (ls.take k)) x4 (fun y hy=>(hrg.1 y hy).1)
   have hl1:=zDa (zH cs ns (ls.take k)) x4 2000 (by omega) (fun y hy=>by have:=(hrg.1 y hy).2;omega)
   have hrl:=hrg.2
   have hrl1:=hrg1.2
   rw [HS.out,HST.out,qD] at hrl1
   clear hrg hrg1
   generalize zH cs ns (ls.take k)=lds at *
   have HMM:=hml.out
   subst HMM
   have HLP:=fA (fun W (f:yB zV W A c lds)=>eQ A c lds x4 W f)
   have HF:=fA (yB.of_own (enc:=zV) HO.out (by omega))
   generalize kF lds x4=l at *
   have hwrp:IntKind.i64.wrap (l+1)=l+1:=oH (by omega) (by omega)
   have hal:=wA wr (zKr x1 x2 x3 x4 x5)
   have gX:=rB wr (zKr x1 x2 x3 x4 x5)
   obtain ⟨e0,e1,e2,e3,e4,_⟩:=kN gX
   have HO2:=fA (jB HO.out hal)
   have hw0:=hw.trans (hal.mono hw.size)
   go_upto_region 5 with fail
   generalize wr.alloc (zKr x1 x2 x3 x4 x5)=W2 at *
   go_region_held3 (fun W=>W.cell? ⟨wr.heap.size,3,none⟩=yA (.int .i64 x4)) (first | exact e3 | exact p0 | exact q0 | go_keep) (first
    | (go_at_call 125;((with_reducible refine (HLP.out _ (HF.out.below hal.drew)).mono ?_);rintro e w3 ⟨rfl,hb3⟩);have g3:=kA hb3 (iB gX);have p0:w3.cell? ⟨wr.heap.size,3,none⟩=yA (.int .i64 x4):=jA g3 3;have hw3:=hw0.drew.trans (hb3.mono hw0.size);have O3:=fA (jB (sI HO2.out) hb3);have hal3:=wA w3 (.cells #[x4,.int .i64 (l+1)] 202);have HIN:=fA (zRC w.heap.size c w3.heap.size A lds (x4,l+1) (w3.alloc (.cells #[x4,.int .i64 (l+1)] 202)) (pA hw3.size hal3.size) (jB O3.out hal3) (rB w3 _) (fun q=>by have:=(qC O3.out _ q).2;omega) (by omega)))
    | (go_at_call 123;((with_reducible refine HIN.out.mono ?_);rintro e w4 ⟨A4,c4,rfl,own4,hb4,hc4⟩);have q0:w4.cell? ⟨wr.heap.size,3,none⟩=yA (.int .i64 x4):=jA (hc4.keep (kA hal3 g3) (fun q=>by have:=(qC HO.out _ q).2;omega)) 3))
   all_goals go_wp2
   all_goals go_roundw
   case rel=>exact ⟨k+1,lds.length+1,c4,A4,by omega,rfl,by go_num,fA (by rw [HS.out,HST.out];rfl),by omega,fA (by rw [HS.out,HST.out];exact own4),(hw3.trans (hal3.mono hw3.size)).trans hb4⟩
   case measure=>simp [intOf];omega
  have hk1:¬ (k:Int)<(ls.length:Int):=by omega
  have hke:k=ls.length:=by omega
  subst hke
  rw [zC (mA _)] at HO hml
  go_wp2
  go_ret
  have:=hml.out
  subst this
  exact ⟨A,c,rfl,HO.out,hw⟩
end Go.Proofs.YtogbpifcmhafkaaGreat
