/-
 Part PH of the proof.
-/
import Derived.Test.YtogbpifcmhafkaaGreatPF
import Derived.Test.YtogbpifcmhafkaaGreatPG
open Go renaming Addr->mB,Calls->iA,TypeId->tC,Value->uB,World->uA,callFunc->xG
open Go.Builtin renaming clear_->jE,zeroCells->uC
open Go.Lib renaming hid->fA
open Go.RowKit renaming Hid->jC
open Go.Value renaming agg->vE,int->dD
open List renaming append_assoc->kE,append_nil->oF,drop_drop->xV,drop_eq_getElem_cons->pD,length_set->lD,length_take->sB,take_of_length_le->zC,take_succ_eq_append_getElem->tB,take_take->dH
open Nat renaming le_refl->mA,min_eq_left->wH,mul_le_mul_right->qG,succ_mul->cH
open Option renaming some->yA
namespace Go.Proofs.YtogbpifcmhafkaaGreat
open Go.RowKit Tryz
open Go.Lib(hid)
set_option linter.unusedVariables false
set_option linter.unusedSimpArgs false
set_option maxRecDepth 100000
set_option maxHeartbeats 16000000
theorem vX {w:uA} {x y:Nat} {cs ds:Array uB} {t u:tC} (hx:w.heap[x]?=yA (.cells cs t)) (hy:w.heap[y]?=yA (.cells ds u)) (h:t≠u):x≠y:=fun e=>by
 rw [e,hy] at hx
 injection hx with hx
 injection hx with _ hx
 exact h hx.symm
structure GM (w:uA) (G A V M Q O:Nat):Prop where
 g:w.heap[G]?=yA (gO A)
 a:w.heap[A]?=yA (.cells #[(M,0),(V,0)] 83)
 v:w.heap[V]?=yA (vO none 0 0 0 0 0 none 0 0)
 m:w.heap[M]?=yA (mO 0 0 none 0 0 0 0 Q O)
 q:uH w Q 0 []
 o:w.heap[O]?=yA (.cells #[.int .i64 0,.int .i64 0] 232)
theorem zNW:oQ prog 75 83 (.agg #[.pointer none,.pointer none]) 2 16:=⟨underlying75,by kernel_rfl,rfl,by omega⟩
theorem zOz (W:uA):(Instr.makeSlice 75 (.int .i64 1) (.int .i64 1)).run prog W=.ok (.slice (yA ⟨W.heap.size,0,none⟩) 1 1) (W.alloc (.cells #[.pointer none,.pointer none] 83)):=by
 obtain ⟨i,hi,hz,hsize,hby⟩:=info_parts zNW.info
 have:=run_make (P:=prog) W 75 83 i _ zNW.under hi hz .i64 .i64 1 1 (by omega) (by omega) (by rw [hby];decide) (by omega)
 rw [hsize,show madeCells (vE #[.pointer none,.pointer none]).cells (Int.toNat 1 * 2)=#[.pointer none,.pointer none] by kernel_rfl] at this
 exact this
theorem vnew1 (w:uA):iA prog 33 #[] w fun e w'=>e=.returned (.pointer (yA ⟨w.heap.size,0,none⟩))/\w'=w.alloc (vO none 0 0 0 0 0 none 0 0):=by
 go_enter func33,ntmps33
 go_wp2
 go_ret
 exact ⟨rfl,rfl⟩
theorem gnew1 (w : uA) : iA prog 11 #[.int .i64 1] w fun e w' => ∃ G A V M Q O, e = .returned (.tuple #[(G,0), .int .i64 0]) /\ GM w' G A V M Q O /\ w.heap.size <= G /\ w.heap.size <= A /\ w.heap.size <= V /\ w.heap.size <= M /\ w.heap.size <= Q /\ w.heap.size <= O /\ Below w.heap.size w w' := by
 have hmk:=zOz
 have hg0:=bG w (.cells #[.pointer none,.pointer none] 83) (gO w.heap.size)
 have hg1:=sF w (.cells #[.pointer none,.pointer none] 83) (gO w.heap.size)
 have hal:=yI w (.cells #[.pointer none,.pointer none] 83) (gO w.heap.size)
 obtain ⟨c0,c1,f0,f1,hlt⟩:=nJ hg1
 go_enter func11,ntmps11
 go_wp2
 clear c0 c1 f0 f1 hlt hmk
 generalize (w.alloc (.cells #[.pointer none,.pointer none] 83)).alloc (gO w.heap.size)=w0 at *
 go_loopw [21] (fun i wr=>(i=.int .i64 0/\wr=w0)\/(i=.int .i64 1/\∃ V M Q O,GM wr (w.heap.size+1) w.heap.size V M Q O/\w.heap.size<=V/\w.heap.size<=M/\w.heap.size<=Q/\w.heap.size<=O/\Below w.heap.size w wr)) (fun i _=>1 - (intOf i).toNat)
 case atStart=>exact .inl ⟨rfl,rfl⟩
 case round =>
  rcases hrel with ⟨rfl,rfl⟩ | ⟨rfl,V,M,Q,O,hG,h1,h2,h3,h4,hb⟩
  ·obtain ⟨c0,c1,f0,f1,hlt⟩:=nJ hg1
   obtain ⟨a0,a1,b0,b1,alt⟩:=nJ hg0
   go_wp2
   go_region_law (first
    | (go_simp;go_at_call 33;refine (vnew1 _).mono ?_;rintro e w1 ⟨rfl,hw1⟩;have hv1:=rB wr.drew (vO none 0 0 0 0 0 none 0 0);have hb1:Below wr.heap.size wr w1:=hw1 ▸ (xC wr).drew.alloc (mA _) _;rw [<- hw1] at hv1;clear hw1;have G1:=kA hb1 hg1;have A1:=kA hb1 hg0;obtain ⟨d0,d1,df0,df1,dlt⟩:=nJ G1;obtain ⟨e0,e1,ef0,ef1,elt⟩:=nJ A1;(try go_simp)))
   all_goals
    have hs1:=hb1.size
    have hn1:w.heap.size≠w.heap.size+1:=by omega
    have hn2:w.heap.size≠wr.heap.size:=by have:=hal.size;omega
    have A2:(w1.setCell ⟨w.heap.size,1,none⟩ (.pointer (yA ⟨wr.heap.size,0,none⟩))).heap[w.heap.size]?=yA (.cells #[.pointer none,.pointer (yA ⟨wr.heap.size,0,none⟩)] 83):=zD (i:=1) A1 _
    have G2:=pC (i:=1) G1 (Ne.symm hn1) (.pointer (yA ⟨wr.heap.size,0,none⟩))
    have V2:=pC (i:=1) hv1 (Ne.symm hn2) (.pointer (yA ⟨wr.heap.size,0,none⟩))
    have HAN:=fA (zRy _ _ _ _ _ G2 A2 V2)
    have HA2:=fA A2
    have HG2:=fA G2
    have HV2:=fA V2
    have hbS:=(hal.trans (hb1.mono hal.size)).setCell (p:=⟨w.heap.size,1,none⟩) (mA _) (.pointer (yA ⟨wr.heap.size,0,none⟩))
    have hws:=hbS.size
    have hl9:=eB A2
    clear A2 G2 V2
    go_wp2_with (go_at_call 34;refine HAN.out.mono ?_;rintro e w9 ⟨rfl,M,Q,O,w3,rfl,hb3,r1,r2,r3,r4,r5,r6,r7,r8,r9⟩)
    go_roundw
   all_goals first | (simp [intOf];done) | exact .inr ⟨rfl,_,M,Q,O,⟨pC (i:=0) (kA hb3 HG2.out) (Ne.symm hn1) _,zD (i:=0) (kA hb3 HA2.out) _,pC (i:=0) (kA hb3 HV2.out) (Ne.symm hn2) _,pC (i:=0) r1 (by omega) _,r2.chg ((fD.refl [w.heap.size] w3).setCell (.inl (by simp)) _ _) (by simp;omega),pC (i:=0) r3 (by omega) _⟩,by have:=hal.size;omega,by omega,by omega,by omega,(hbS.trans (hb3.mono hbS.size)).setCell (p:=⟨w.heap.size,0,none⟩) (mA _) _⟩
  ·obtain ⟨c0,c1,f0,f1,hlt⟩:=nJ hG.g
   go_wp2
   go_ret2
   exact ⟨_,_,V,M,Q,O,rfl,hG,by omega,by omega,h1,h2,h3,h4,hb⟩
theorem zQg {w:uA} {F:Nat} {x0 x1 x2 x3 x4 x5 x6 x7 x8 x9:uB} {t:tC} (h:w.heap[F]?=yA (.cells #[x0,x1,x2,x3,x4,x5,x6,x7,x8,x9] t)):w.cell? ⟨F,0,none⟩=yA x0/\w.cell? ⟨F,1,none⟩=yA x1/\w.cell? ⟨F,2,none⟩=yA x2/\w.cell? ⟨F,3,none⟩=yA x3/\w.cell? ⟨F,4,none⟩=yA x4/\w.cell? ⟨F,5,none⟩=yA x5/\w.cell? ⟨F,6,none⟩=yA x6/\w.cell? ⟨F,7,none⟩=yA x7/\w.cell? ⟨F,8,none⟩=yA x8/\w.cell? ⟨F,9,none⟩=yA x9/\F<w.heap.size :=
 ⟨jA h 0,jA h 1,jA h 2,jA h 3,jA h 4,jA h 5,jA h 6,jA h 7,jA h 8,jA h 9,eB h⟩
abbrev zPQ:List uB:=[.int .i64 1,.int .i64 0,.int .i64 0,.int .i64 0,.int .i64 0,.int .i64 0,.int .i64 0]
theorem Lo.of_row {w:uA} {A:Option mB} (h:dC w A zPQ):Lo w A 1:=by
 rcases h with h | ⟨b,o,hA,hl,hc⟩
 ·cases h
 ·exact .inr ⟨rfl,b,o,hA,hl,hc 0 _ rfl,hc 1 _ rfl,hc 2 _ rfl,hc 3 _ rfl,hc 4 _ rfl,hc 5 _ rfl,hc 6 _ rfl⟩
theorem zOJ (M:Nat) (t v:Int) (L:Option mB) (n c:Nat) (r s:Int) (Q O:Nat) (w:uA) (h:w.heap[M]?=yA (mO t v L n c r s Q O)) (hL:Lo w L n):iA prog 153 #[(M,0)] w fun e w'=>e=.returned (.int .i64 (n:Int))/\Below w.heap.size w w':=by
 have HL:=fA (zOu L n c w hL)
 have c3:=jA h 3
 have c4:=jA h 4
 have c5:=jA h 5
 have hl:=eB h
 go_enter func153,ntmps153
 go_wp2_with (go_at_call 86;refine HL.out.mono ?_;rintro e w1 ⟨rfl,hb1⟩)
 go_ret
 exact ⟨rfl,hb1⟩
theorem zRQ (M:Nat) (t v:Int) (L:Option mB) (n c:Nat) (r s:Int) (Q O:Nat) (f:uB) (w:uA) (h:w.heap[M]?=yA (mO t v L n c r s Q O)):iA prog 83 #[(M,0),f] w fun e w'=>e=.returned (.slice none 0 0)/\w'=w:=by
 have c0:=jA h 0
 have c9:=jA h 9
 have hl:=eB h
 go_enter func83,ntmps83
 go_wp2
 go_loop [5,13] (fun l i=>l=.slice none 0 0/\(i=.int .i64 0\/i=.int .i64 1)) (fun _ i=>1 - (intOf i).toNat)
 case atStart=>exact ⟨rfl,.inl rfl⟩
 case round =>
  obtain ⟨rfl,rfl | rfl⟩:=hrel
  ·go_wp2
   go_round
   case rel=>exact ⟨rfl,.inr rfl⟩
   case measure=>simp [intOf]
  ·go_wp2
   go_ret
   exact ⟨rfl,rfl⟩
theorem mput1 (M Q O:Nat) (w:uA) (h:w.heap[M]?=yA (mO 1 1 none 0 0 2 0 Q O)):iA prog 154 #[.pointer (yA ⟨M,0,none⟩),.agg #[.int .i64 0,.int .i64 0,.int .i64 0,.int .i64 0,.int .i64 0,.int .i64 0]] w fun e w'=>e=.returned (.bool true)/\∃ L c,w'.heap[M]?=yA (mO 1 1 L 1 c 2 0 Q O)/\Lo w' L 1/\(∀ x ∈ zB L,w.heap.size<=x)/\fD [M] w w':=by
 have hal:=wA w (.cells #[.int .i64 0,.int .i64 0,.int .i64 0,.int .i64 0,.int .i64 0,.int .i64 0] 99)
 have H1:=kA hal h
 obtain ⟨c0,c1,c2,c3,c4,c5,c6,c7,c8,c9,hlt⟩:=zQg H1
 have gB:=rB w (.cells #[.int .i64 0,.int .i64 0,.int .i64 0,.int .i64 0,.int .i64 0,.int .i64 0] 99)
 have hM:=eB h
 have hnb:M≠w.heap.size:=by omega
 go_enter func154,ntmps154
 go_wp2
 have hls:w.heap.size<=(w.alloc (.cells #[.int .i64 0,.int .i64 0,.int .i64 0,.int .i64 0,.int .i64 0,.int .i64 0] 99)).heap.size:=by simp
 generalize w.alloc (.cells #[.int .i64 0,.int .i64 0,.int .i64 0,.int .i64 0,.int .i64 0,.int .i64 0] 99)=W at *
 obtain ⟨y0,y1,y2,y3,y4,y5,yl⟩:W.cell? ⟨w.heap.size,0,none⟩=yA (.int .i64 0)/\W.cell? ⟨w.heap.size,1,none⟩=yA (.int .i64 0)/\W.cell? ⟨w.heap.size,2,none⟩=yA (.int .i64 0)/\W.cell? ⟨w.heap.size,3,none⟩=yA (.int .i64 0)/\W.cell? ⟨w.heap.size,4,none⟩=yA (.int .i64 0)/\W.cell? ⟨w.heap.size,5,none⟩=yA (.int .i64 0)/\w.heap.size<W.heap.size:=⟨jA gB 0,jA gB 1,jA gB 2,jA gB 3,jA gB 4,jA gB 5,eB gB⟩
 go_region_law (first
  | (refine lN rfl (.tmp 17) (.tmp 25) rfl zLl w.heap.size (.slice none 0 0) 0 [] (by rfl) (World.ownsRow_nil _ _ _ _) (yA ⟨W.heap.size,0,none⟩) 1 1 zPQ (by rfl) (by rfl) (dC.new W.drew _ _) ?_ (by unfold maxLen;omega) (by omega) (by simp;omega) (fun h=>by cases h) ?_;(intro u hu;simp at hu;rcases hu with rfl | rfl <;> rfl);intro A2 c2 w2 hown2 hg2 hat2;have G2:=zDo hg2 (zF (iB H1) (.cells zPQ.toArray 227)) (fun e=>by cases e);have q5:=jA G2 5;have q5f:=qB G2 5;have q5l:=eB G2))
 all_goals go_wp2
 all_goals go_ret
 all_goals
  have hc:fD [M] w w2:=(fD.of_below (hal.trans (((xC W).drew.alloc (mA _) _).mono hls))).grown hg2 (fun x hx=>by cases hx)
  have hLb:∀ x ∈ zB A2,w.heap.size<=x:=fun x hx=>(qC hown2 x hx).1
  exact ⟨rfl,A2,c2,zD (i:=5) G2 _,Lo.of_row (zQM (dC.of_own hown2) fun b o e=>by have:=hLb b (by rw [e];simp [zB]);omega),hLb,hc.setCell (.inl (by simp)) _ _⟩
theorem zLS {α:Type} {enc:α -> List uB} {k:Nat} (hk:∀ x,(enc x).length=k) (cs:List α) (i:Nat) (x:α) (hi:i<cs.length):flat enc (cs.set i x)=(flat enc cs).take (i * k) ++ enc x ++ (flat enc cs).drop (i * k+k):=by
 rw [List.set_eq_take_append_cons_drop,if_pos hi,uD,vK,mL hk,<- cH,wM hk,kE]
theorem mR {α:Type} {enc:α -> List uB} {k:Nat} (hk:∀ x,(enc x).length=k) {w:uA} {base:Nat} {e:tC} {g n c:Nat} {cs:List α} (h:w.ownsRow base e k (.slice (yA ⟨g,0,none⟩) n c) n (flat enc cs)) (hn:cs.length=n) {i:Nat} (hi:i<cs.length) (x:α):(w.setCells g (i * k) (enc x)).ownsRow base e k (.slice (yA ⟨g,0,none⟩) n c) n (flat enc (cs.set i x)):=by
 obtain ⟨hl,h0 | ⟨g',c',cur,hv,hg,hh,hnc,hcm,hsz,htk⟩⟩:=h
 ·cases h0.1
 injection hv with e1 _ e3
 injection e1 with e1
 injection e1 with e1
 subst e1 e3
 have hl2:=jD hk cs
 have hlen:cs.length * k=n * k:=by rw [<- hl2,hl]
 have hik:i * k+k<=cs.length * k:=by rw [<- cH];exact qG k hi
 have hnk:n * k<=c * k:=qG k hnc
 refine ⟨by rw [jD hk,lD];omega,.inr ⟨g,c,_,rfl,hg,uI (enc x) (i * k) w cur hh,hnc,hcm,by rw [jG];exact hsz,?_⟩⟩
 rw [dJ _ _ _ (by rw [hk];omega),hk,zLS hk cs i x hi,<- htk]
 rw [dH,wH (by omega)]
 rw [List.take_append,zC (l:=List.take (i * k) cur.toList ++ enc x) (by simp [hk];omega)]
 congr 1
 rw [List.drop_take]
 congr 1
 have hic:i<=c:=by omega
 simp [hk,hsz,wH hic]
theorem bZ {α:Type} {enc:α -> List uB} {k:Nat} (hk:∀ x,(enc x).length=k) {w:uA} {base:Nat} {e:tC} {g n c:Nat} {cs:List α} (h:w.ownsRow base e k (.slice (yA ⟨g,0,none⟩) n c) n (flat enc cs)) {i:Nat} (hn:cs.length=n) (hi:i<=cs.length) (zs:List uB) (hz:i * k+zs.length<=n * k):(w.setCells g (i * k) zs).ownsRow base e k (.slice (yA ⟨g,0,none⟩) i c) i (flat enc (cs.take i)):=by
 obtain ⟨hl,h0 | ⟨g',c',cur,hv,hg,hh,hnc,hcm,hsz,htk⟩⟩:=h
 ·cases h0.1
 injection hv with e1 _ e3
 injection e1 with e1
 injection e1 with e1
 subst e1 e3
 have hl2:=jD hk cs
 have hnk:n * k<=c * k:=qG k hnc
 have hin:i * k<=cs.length * k:=qG k hi
 have hic:i<=c:=by omega
 refine ⟨by rw [jD hk,sB,wH hi],.inr ⟨g,c,_,rfl,hg,uI zs (i * k) w cur hh,hic,hcm,by rw [jG];exact hsz,?_⟩⟩
 rw [dJ _ _ _ (by omega),kE,List.take_append_of_le_length (by rw [sB,Array.length_toList];omega),dH,Nat.min_self,<- mL hk,<- htk,dH,wH (by omega)]
theorem fX {P:Program} (w:uA) {t e:tC} {z:uB} (k:Nat) (ty:tC) (b o n c:Nat) (ht:P.underlying t=yA (.slice e)) (hv:(zeroValue e).run P w=.ok z w) (hz:z.cells.size=k) (h1:∀ u ∈ (uC z.cells n).toList,u.oneCell'=true)
  (hl:(uC z.cells n).toList.length=n * k) (h0:0<n) (hc:∀ j,j<n * k -> (w.cell? ⟨b,o+j,none⟩).isSome=true) (hf:∀ j,j<n * k -> w.frozen? ⟨b,o+j,none⟩=false) :
  (jE #[t] ty #[.slice (yA ⟨b,o,none⟩) n c]).run P w=.ok (.tuple #[]) (w.setCells b o (uC z.cells n).toList):=by
 have hst:=run_storeCells_cells (P:=P) b o (uC z.cells n).toList 0 w (by simpa [hl] using hc) (by simpa [hl] using hf) h1
 simp only [Nat.add_zero] at hst
 obtain ⟨n',rfl⟩:∃ n',n=n'+1:=⟨n - 1,by omega⟩
 simp [jE,run_underlying ht,hv,hst]
theorem below_setCells {B g:Nat} (hg:B<=g):∀ (vs:List uB) (o:Nat) {w W:uA},Below B w W -> Below B w (W.setCells g o vs)
 | [],_,_,_,h=>h
 | v :: vs,o,_,_,h=>below_setCells hg vs (o+1) (h.setCell (p:=⟨g,o,none⟩) hg v)
def xQ {α:Type} (base g:Nat) (lb:Array uB) (enc:α -> uB) (p:α -> Bool) (w:uA):Prop :=
 ∀ (W:uA) (x:α),Below base w W -> iA prog g (#[enc x] ++ lb) W fun e w'=>e=.returned (.bool (p x))/\Below W.heap.size W w'
theorem xQ.at_ {α:Type} {base g:Nat} {lb:Array uB} {enc:α -> uB} {p:α -> Bool} {w:uA} (h:xQ base g lb enc p w) (hb:base<=w.heap.size):yR g lb enc p w:=fun W x hW=>h W x (hW.mono hb)
def wY {α:Type} (enc:α -> List uB) (base:Nat) (e:tC) (k:Nat) (A:Option mB) (c:Nat) (ys:List α) (w:uA) (en:Ending) (w':uA):Prop:=en=.returned (.slice A ys.length c)/\w'.ownsRow base e k (.slice A ys.length c) ys.length (flat enc ys)/\Below base w w'
theorem xZ {α:Type} {p:α -> Bool} {xs:List α} (h:∀ x ∈ xs,p x=false):nE p xs=xs:=List.filter_eq_self.2 fun x hx=>by simp [h x hx]
theorem zCz {α:Type} (p:α -> Bool) (xs:List α) {k:Nat} (hk:k<xs.length):nE p (xs.take (k+1))=nE p (xs.take k) ++ (if p (xs[k]'hk) then [] else [xs[k]'hk]):=by
 unfold nE
 rw [tB hk,List.filter_append]
 congr 1
 cases h:p (xs[k]'hk) <;> simp [h]
structure Kept {α:Type} (p:α -> Bool) (xs cs:List α) (a b:Nat):Prop where
 lt:a<b
 le:b<=xs.length
 len:cs.length=xs.length
 low:cs.take a=nE p (xs.take b)
 high:cs.drop b=xs.drop b
namespace Kept
variable {α:Type} {p:α -> Bool} {xs cs:List α} {a b:Nat}
theorem start {k:Nat} (hk:k<xs.length) (ht:p (xs[k]'hk)=true) (h:∀ x ∈ xs.take k,p x=false):Kept p xs xs k (k+1) :=
 ⟨by omega,by omega,rfl,by rw [zCz p xs hk,ht,if_pos rfl,oF,xZ h],rfl⟩
theorem at_ (h:Kept p xs cs a b) (hb:b<xs.length):cs[b]'(by rw [h.len];exact hb)=xs[b]'hb:=by
 have h1:=pD (l:=cs) (i:=b) (by rw [h.len];exact hb)
 have h2:=pD (l:=xs) hb
 have:=h.high
 rw [h1,h2] at this
 injection this
theorem skip (h:Kept p xs cs a b) (hb:b<xs.length) (ht:p (xs[b]'hb)=true):Kept p xs cs a (b+1) :=
 ⟨by have:=h.lt;omega,by omega,h.len,by rw [zCz p xs hb,ht,if_pos rfl,oF];exact h.low,by rw [<- xV,<- xV,h.high]⟩
theorem keep (h:Kept p xs cs a b) (hb:b<xs.length) (ht:p (xs[b]'hb)=false):Kept p xs (cs.set a (xs[b]'hb)) (a+1) (b+1):=by
 have:=h.lt
 refine ⟨by omega,by omega,by rw [lD];exact h.len,?_,?_⟩
 ·have hal:a<cs.length:=by rw [h.len];omega
  rw [zCz p xs hb,ht,if_neg (by decide),<- h.low,tB (by simpa using hal),List.take_set_of_le (mA _)]
  simp
 ·rw [List.drop_set_of_lt (by omega),<- xV,<- xV,h.high]
theorem out (h:Kept p xs cs a xs.length):cs.take a=nE p xs/\a=(nE p xs).length:=by
 have:=h.low
 rw [zC (mA _)] at this
 refine ⟨this,?_⟩
 rw [<- this,sB,h.len]
 have:=h.lt
 omega
end Kept
theorem zDt (A : Option mB) (c : Nat) (xs : List Int) (g : Nat) (lb : Array uB) (eg : ∀ args w, (xG g args).run prog w = .ok (.enter g args) w) (p : Int -> Bool) (w : uA) (h : yB kG w A c xs) (hp : ∀ x ∈ xs, ∀ W, Below w.heap.size w W -> iA prog g (#[.int .i64 x] ++ lb) W fun e w' => e = .returned (.bool (p x)) /\ Below W.heap.size W w') : iA prog 119 #[.slice A xs.length c, .func (.func g) #[] lb] w fun e w' => e = .returned (.int .i64 (bE p xs 0)) /\ Below w.heap.size w w' := by
 have HI:=fA h
 have HP:=fA hp
 have hmx:=h.max
 have hb0:=xC w
 have HR0:jC (bE p (xs.drop 0) 0=bE p xs 0):=fA rfl
 clear h hp
 go_enter func119,ntmps119
 go_wp2
 go_loopw [5,8] (fun v i wr=>∃ (k:Nat),k<=xs.length/\i=.int .i64 (k:Int)/\jC (bE p (xs.drop k) k=bE p xs 0)/\Below w.heap.size w wr) (fun _ i _=>xs.length - (intOf i).toNat)
 case atStart=>exact ⟨0,by omega,rfl,HR0,hb0⟩
 case round =>
  clear hb0 HR0
  obtain ⟨k,hk,rfl,HR,hw⟩:=hrel
  have hk0:(0:Int)<=(k:Int):=by omega
  by_cases hlt:k<xs.length
  ·have hk1:(k:Int)<(xs.length:Int):=by omega
   have HS:=fA (iU p xs hlt)
   obtain ⟨b,off,rfl,blt,c0⟩:=uJ (HI.out.below hw) hlt
   have HC:jC (iA prog g (#[.int .i64 (xs[k]'hlt)] ++ lb) wr fun e w'=>e=.returned (.bool (p (xs[k]'hlt)))/\Below wr.heap.size wr w'):=fA (HP.out _ (List.getElem_mem hlt) wr hw)
   generalize (xs[k]'hlt)=x at *
   generalize p x=q at *
   cases q with
   | true =>
    have HZ:jC (bE p xs 0=(k:Int)):=fA (by rw [<- HR.out,HS.out,if_pos rfl])
    go_wp2_with (go_at_fn g;refine HC.out.mono ?_;rintro e w1 ⟨rfl,hb1⟩;have hw1:=hw.trans (hb1.mono hw.size))
    go_ret
    exact ⟨by rw [HZ.out];rfl,hw1⟩
   | false =>
    have HZ:jC (bE p (xs.drop (k+1)) (k+1)=bE p xs 0):=fA (by rw [<- HR.out,HS.out,if_neg (by decide)])
    go_wp2_with (go_at_fn g;refine HC.out.mono ?_;rintro e w1 ⟨rfl,hb1⟩;have hw1:=hw.trans (hb1.mono hw.size))
    go_roundw
    case rel=>exact ⟨k+1,by omega,by go_num,HZ,hw1⟩
    case measure=>simp [intOf];omega
  have hk1:¬ (k:Int)<(xs.length:Int):=by omega
  have HZ:jC (bE p xs 0=-1):=fA (by rw [<- HR.out];exact kR p xs (by omega))
  go_wp2
  go_ret
  exact ⟨by rw [HZ.out];rfl,hw⟩
theorem zMc (A:Option mB) (c:Nat) (xs:List Int) (g:Nat) (lb:Array uB) (eg:∀ args w,(xG g args).run prog w=.ok (.enter g args) w) (p:Int -> Bool) (w:uA) (h:yB kG w A c xs) (hp:yR g lb (fun x:Int=>dD .i64 x) p w):iA prog 119 #[.slice A xs.length c,.func (.func g) #[] lb] w fun e w'=>e=.returned (.int .i64 (bE p xs 0))/\Below w.heap.size w w':=zDt A c xs g lb eg p w h fun x _ W hW=>hp W x hW
theorem zMa (A:Option mB) (c:Nat) (xs:List Int) (g:Nat) (lb:Array uB) (eg:∀ args w,(xG g args).run prog w=.ok (.enter g args) w) (p:Int -> Bool) (w:uA) (h:yB kG w A c xs) (hp:yR g lb (fun x:Int=>dD .i64 x) p w):iA prog 195 #[.slice A xs.length c,.func (.func g) #[] lb] w fun e w'=>e=.returned (.bool (eU p xs))/\Below w.heap.size w w':=by
 have HI:=fA (zMc A c xs g lb eg p w h hp)
 unfold eU
 clear h hp
 generalize bE p xs 0=v at *
 go_enter func195,ntmps195
 go_wp2_with (go_at_call 119;refine HI.out.mono ?_;rintro e w1 ⟨rfl,hb1⟩)
 go_ret
 exact ⟨rfl,hb1⟩
theorem zEI (A : Option mB) (c : Nat) (xs : List Rp) (g : Nat) (lb : Array uB) (eg : ∀ args w, (xG g args).run prog w = .ok (.enter g args) w) (p : Rp -> Bool) (w : uA) (h : yB fJ w A c xs) (hp : yR g lb (fun x : Rp => vE (fJ x).toArray) p w) : iA prog 187 #[.slice A xs.length c, .func (.func g) #[] lb] w fun e w' => e = .returned (.int .i64 (bE p xs 0)) /\ Below w.heap.size w w' := by
 have HI:=fA h
 have HP:=fA hp
 have hmx:=h.max
 have hb0:=xC w
 have HR0:jC (bE p (xs.drop 0) 0=bE p xs 0):=fA rfl
 clear h hp
 go_enter func187,ntmps187
 go_wp2
 go_loopw [5,8] (fun v i wr=>∃ (k:Nat),k<=xs.length/\i=.int .i64 (k:Int)/\jC (bE p (xs.drop k) k=bE p xs 0)/\Below w.heap.size w wr) (fun _ i _=>xs.length - (intOf i).toNat)
 case atStart=>exact ⟨0,by omega,rfl,HR0,hb0⟩
 case round =>
  clear hb0 HR0
  obtain ⟨k,hk,rfl,HR,hw⟩:=hrel
  have hk0:(0:Int)<=(k:Int):=by omega
  by_cases hlt:k<xs.length
  ·have hk1:(k:Int)<(xs.length:Int):=by omega
   have HS:=fA (iU p xs hlt)
   obtain ⟨b,off,rfl,blt,c0,c1,c2,c3,c4⟩:=rR (HI.out.below hw) hlt
   generalize (xs[k]'hlt)=x at *
   obtain ⟨x1,x2,x3,x4,x5⟩:=x
   simp only at c0 c1 c2 c3 c4
   have HC:jC (iA prog g (#[.agg #[x1,x2,.int .u32 x3,.bool x4,.bool x5]] ++ lb) wr fun e w'=>e=.returned (.bool (p (x1,x2,x3,x4,x5)))/\Below wr.heap.size wr w'):=fA (HP.out wr (x1,x2,x3,x4,x5) hw)
   generalize p (x1,x2,x3,x4,x5)=q at *
   cases q with
   | true =>
    have HZ:jC (bE p xs 0=(k:Int)):=fA (by rw [<- HR.out,HS.out,if_pos rfl])
    go_wp2_with (go_at_fn g;refine HC.out.mono ?_;rintro e w1 ⟨rfl,hb1⟩;have hw1:=hw.trans (hb1.mono hw.size))
    go_ret
    exact ⟨by rw [HZ.out];rfl,hw1⟩
   | false =>
    have HZ:jC (bE p (xs.drop (k+1)) (k+1)=bE p xs 0):=fA (by rw [<- HR.out,HS.out,if_neg (by decide)])
    go_wp2_with (go_at_fn g;refine HC.out.mono ?_;rintro e w1 ⟨rfl,hb1⟩;have hw1:=hw.trans (hb1.mono hw.size))
    go_roundw
    case rel=>exact ⟨k+1,by omega,by go_num,HZ,hw1⟩
    case measure=>simp [intOf];omega
  have hk1:¬ (k:Int)<(xs.length:Int):=by omega
  have HZ:jC (bE p xs 0=-1):=fA (by rw [<- HR.out];exact kR p xs (by omega))
  go_wp2
  go_ret
  exact ⟨by rw [HZ.out];rfl,hw⟩
theorem zED (A:Option mB) (c:Nat) (xs:List Rp) (g:Nat) (lb:Array uB) (eg:∀ args w,(xG g args).run prog w=.ok (.enter g args) w) (p:Rp -> Bool) (w:uA) (h:yB fJ w A c xs) (hp:yR g lb (fun x:Rp=>vE (fJ x).toArray) p w):iA prog 112 #[.slice A xs.length c,.func (.func g) #[] lb] w fun e w'=>e=.returned (.bool (eU p xs))/\Below w.heap.size w w':=by
 have HI:=fA (zEI A c xs g lb eg p w h hp)
 unfold eU
 clear h hp
 generalize bE p xs 0=v at *
 go_enter func112,ntmps112
 go_wp2_with (go_at_call 187;refine HI.out.mono ?_;rintro e w1 ⟨rfl,hb1⟩)
 go_ret
 exact ⟨rfl,hb1⟩
theorem zEH (A : Option mB) (c : Nat) (xs : List Od) (g : Nat) (lb : Array uB) (eg : ∀ args w, (xG g args).run prog w = .ok (.enter g args) w) (p : Od -> Bool) (w : uA) (h : yB qL w A c xs) (hp : yR g lb (fun x : Od => vE (qL x).toArray) p w) : iA prog 222 #[.slice A xs.length c, .func (.func g) #[] lb] w fun e w' => e = .returned (.int .i64 (bE p xs 0)) /\ Below w.heap.size w w' := by
 have HI:=fA h
 have HP:=fA hp
 have hmx:=h.max
 have hb0:=xC w
 have HR0:jC (bE p (xs.drop 0) 0=bE p xs 0):=fA rfl
 clear h hp
 go_enter func222,ntmps222
 go_wp2
 go_loopw [5,8] (fun v i wr=>∃ (k:Nat),k<=xs.length/\i=.int .i64 (k:Int)/\jC (bE p (xs.drop k) k=bE p xs 0)/\Below w.heap.size w wr) (fun _ i _=>xs.length - (intOf i).toNat)
 case atStart=>exact ⟨0,by omega,rfl,HR0,hb0⟩
 case round =>
  clear hb0 HR0
  obtain ⟨k,hk,rfl,HR,hw⟩:=hrel
  have hk0:(0:Int)<=(k:Int):=by omega
  by_cases hlt:k<xs.length
  ·have hk1:(k:Int)<(xs.length:Int):=by omega
   have HS:=fA (iU p xs hlt)
   obtain ⟨b,off,rfl,blt,c0,c1,c2,c3,c4,c5,c6⟩:=zET (HI.out.below hw) hlt
   generalize (xs[k]'hlt)=x at *
   obtain ⟨x1,x2,x3,x4,x5,x6,x7⟩:=x
   simp only at c0 c1 c2 c3 c4 c5 c6
   have HC:jC (iA prog g (#[.agg #[x1,x2,x3,.int .u32 x4,x5,x6,x7]] ++ lb) wr fun e w'=>e=.returned (.bool (p (x1,x2,x3,x4,x5,x6,x7)))/\Below wr.heap.size wr w'):=fA (HP.out wr (x1,x2,x3,x4,x5,x6,x7) hw)
   generalize p (x1,x2,x3,x4,x5,x6,x7)=q at *
   cases q with
   | true =>
    have HZ:jC (bE p xs 0=(k:Int)):=fA (by rw [<- HR.out,HS.out,if_pos rfl])
    go_wp2_with (go_at_fn g;refine HC.out.mono ?_;rintro e w1 ⟨rfl,hb1⟩;have hw1:=hw.trans (hb1.mono hw.size))
    go_ret
    exact ⟨by rw [HZ.out];rfl,hw1⟩
   | false =>
    have HZ:jC (bE p (xs.drop (k+1)) (k+1)=bE p xs 0):=fA (by rw [<- HR.out,HS.out,if_neg (by decide)])
    go_wp2_with (go_at_fn g;refine HC.out.mono ?_;rintro e w1 ⟨rfl,hb1⟩;have hw1:=hw.trans (hb1.mono hw.size))
    go_roundw
    case rel=>exact ⟨k+1,by omega,by go_num,HZ,hw1⟩
    case measure=>simp [intOf];omega
  have hk1:¬ (k:Int)<(xs.length:Int):=by omega
  have HZ:jC (bE p xs 0=-1):=fA (by rw [<- HR.out];exact kR p xs (by omega))
  go_wp2
  go_ret
  exact ⟨by rw [HZ.out];rfl,hw⟩
theorem zKa (A:Option mB) (c:Nat) (xs:List Od) (g:Nat) (lb:Array uB) (eg:∀ args w,(xG g args).run prog w=.ok (.enter g args) w) (p:Od -> Bool) (w:uA) (h:yB qL w A c xs) (hp:yR g lb (fun x:Od=>vE (qL x).toArray) p w):iA prog 138 #[.slice A xs.length c,.func (.func g) #[] lb] w fun e w'=>e=.returned (.bool (eU p xs))/\Below w.heap.size w w':=by
 have HI:=fA (zEH A c xs g lb eg p w h hp)
 unfold eU
 clear h hp
 generalize bE p xs 0=v at *
 go_enter func138,ntmps138
 go_wp2_with (go_at_call 222;refine HI.out.mono ?_;rintro e w1 ⟨rfl,hb1⟩)
 go_ret
 exact ⟨rfl,hb1⟩
def zNp (g:Nat) (lb:Array uB) (p:Ch -> Bool) (w:uA):Prop :=
 ∀ (W:uA) (x1 x2 x3:Int) (a:Option mB) (cc:Nat) (x4:List Int),Below w.heap.size w W -> yB kG W a cc x4 -> iA prog g (#[.agg #[x1,x2,.int .u32 x3,.slice a x4.length cc]] ++ lb) W fun e w'=>e=.returned (.bool (p (x1,x2,x3,x4)))/\Below W.heap.size W w'
theorem zKc (A : Option mB) (c : Nat) (xs : List Ch) (g : Nat) (lb : Array uB) (eg : ∀ args w, (xG g args).run prog w = .ok (.enter g args) w) (p : Ch -> Bool) (w : uA) (h : vM w A c xs) (hp : zNp g lb p w) : iA prog 262 #[.slice A xs.length c, .func (.func g) #[] lb] w fun e w' => e = .returned (.int .i64 (bE p xs 0)) /\ Below w.heap.size w w' := by
 have HI:=fA h
 have HP:=fA hp
 have hmx:=h.max
 have hb0:=xC w
 have HR0:jC (bE p (xs.drop 0) 0=bE p xs 0):=fA rfl
 clear h hp
 go_enter func262,ntmps262
 go_wp2
 go_loopw [5,8] (fun v i wr=>∃ (k:Nat),k<=xs.length/\i=.int .i64 (k:Int)/\jC (bE p (xs.drop k) k=bE p xs 0)/\Below w.heap.size w wr) (fun _ i _=>xs.length - (intOf i).toNat)
 case atStart=>exact ⟨0,by omega,rfl,HR0,hb0⟩
 case round =>
  clear hb0 HR0
  obtain ⟨k,hk,rfl,HR,hw⟩:=hrel
  have hk0:(0:Int)<=(k:Int):=by omega
  by_cases hlt:k<xs.length
  ·have hk1:(k:Int)<(xs.length:Int):=by omega
   have HS:=fA (iU p xs hlt)
   obtain ⟨b,off,a,cc,rfl,blt,c0,c1,c2,c3,HH⟩:=(HI.out.below hw).cells hlt
   generalize (xs[k]'hlt)=x at *
   obtain ⟨x1,x2,x3,x4⟩:=x
   simp only at c0 c1 c2 c3
   have HC:jC (iA prog g (#[.agg #[x1,x2,.int .u32 x3,.slice a x4.length cc]] ++ lb) wr fun e w'=>e=.returned (.bool (p (x1,x2,x3,x4)))/\Below wr.heap.size wr w'):=fA (HP.out wr x1 x2 x3 a cc x4 hw HH)
   clear HH
   generalize p (x1,x2,x3,x4)=q at *
   cases q with
   | true =>
    have HZ:jC (bE p xs 0=(k:Int)):=fA (by rw [<- HR.out,HS.out,if_pos rfl])
    go_wp2_with (go_at_fn g;refine HC.out.mono ?_;rintro e w1 ⟨rfl,hb1⟩;have hw1:=hw.trans (hb1.mono hw.size))
    go_ret
    exact ⟨by rw [HZ.out];rfl,hw1⟩
   | false =>
    have HZ:jC (bE p (xs.drop (k+1)) (k+1)=bE p xs 0):=fA (by rw [<- HR.out,HS.out,if_neg (by decide)])
    go_wp2_with (go_at_fn g;refine HC.out.mono ?_;rintro e w1 ⟨rfl,hb1⟩;have hw1:=hw.trans (hb1.mono hw.size))
    go_roundw
    case rel=>exact ⟨k+1,by omega,by go_num,HZ,hw1⟩
    case measure=>simp [intOf];omega
  have hk1:¬ (k:Int)<(xs.length:Int):=by omega
  have HZ:jC (bE p xs 0=-1):=fA (by rw [<- HR.out];exact kR p xs (by omega))
  go_wp2
  go_ret
  exact ⟨by rw [HZ.out];rfl,hw⟩
theorem zJZ (A:Option mB) (c:Nat) (xs:List Ch) (g:Nat) (lb:Array uB) (eg:∀ args w,(xG g args).run prog w=.ok (.enter g args) w) (p:Ch -> Bool) (w:uA) (h:vM w A c xs) (hp:zNp g lb p w):iA prog 197 #[.slice A xs.length c,.func (.func g) #[] lb] w fun e w'=>e=.returned (.bool (eU p xs))/\Below w.heap.size w w':=by
 have HI:=fA (zKc A c xs g lb eg p w h hp)
 unfold eU
 clear h hp
 generalize bE p xs 0=v at *
 go_enter func197,ntmps197
 go_wp2_with (go_at_call 262;refine HI.out.mono ?_;rintro e w1 ⟨rfl,hb1⟩)
 go_ret
 exact ⟨rfl,hb1⟩
theorem zKd (A : Option mB) (c : Nat) (xs : List Ld) (g : Nat) (lb : Array uB) (eg : ∀ args w, (xG g args).run prog w = .ok (.enter g args) w) (p : Ld -> Bool) (w : uA) (h : yB zV w A c xs) (hp : yR g lb (fun x : Ld => vE (zV x).toArray) p w) : iA prog 211 #[.slice A xs.length c, .func (.func g) #[] lb] w fun e w' => e = .returned (.int .i64 (bE p xs 0)) /\ Below w.heap.size w w' := by
 have HI:=fA h
 have HP:=fA hp
 have hmx:=h.max
 have hb0:=xC w
 have HR0:jC (bE p (xs.drop 0) 0=bE p xs 0):=fA rfl
 clear h hp
 go_enter func211,ntmps211
 go_wp2
 go_loopw [5,8] (fun v i wr=>∃ (k:Nat),k<=xs.length/\i=.int .i64 (k:Int)/\jC (bE p (xs.drop k) k=bE p xs 0)/\Below w.heap.size w wr) (fun _ i _=>xs.length - (intOf i).toNat)
 case atStart=>exact ⟨0,by omega,rfl,HR0,hb0⟩
 case round =>
  clear hb0 HR0
  obtain ⟨k,hk,rfl,HR,hw⟩:=hrel
  have hk0:(0:Int)<=(k:Int):=by omega
  by_cases hlt:k<xs.length
  ·have hk1:(k:Int)<(xs.length:Int):=by omega
   have HS:=fA (iU p xs hlt)
   obtain ⟨b,off,rfl,blt,c0,c1⟩:=zCZ (HI.out.below hw) hlt
   generalize (xs[k]'hlt)=x at *
   obtain ⟨x1,x2⟩:=x
   simp only at c0 c1
   have HC:jC (iA prog g (#[.agg #[x1,x2]] ++ lb) wr fun e w'=>e=.returned (.bool (p (x1,x2)))/\Below wr.heap.size wr w'):=fA (HP.out wr (x1,x2) hw)
   generalize p (x1,x2)=q at *
   cases q with
   | true =>
    have HZ:jC (bE p xs 0=(k:Int)):=fA (by rw [<- HR.out,HS.out,if_pos rfl])
    go_wp2_with (go_at_fn g;refine HC.out.mono ?_;rintro e w1 ⟨rfl,hb1⟩;have hw1:=hw.trans (hb1.mono hw.size))
    go_ret
    exact ⟨by rw [HZ.out];rfl,hw1⟩
   | false =>
    have HZ:jC (bE p (xs.drop (k+1)) (k+1)=bE p xs 0):=fA (by rw [<- HR.out,HS.out,if_neg (by decide)])
    go_wp2_with (go_at_fn g;refine HC.out.mono ?_;rintro e w1 ⟨rfl,hb1⟩;have hw1:=hw.trans (hb1.mono hw.size))
    go_roundw
    case rel=>exact ⟨k+1,by omega,by go_num,HZ,hw1⟩
    case measure=>simp [intOf];omega
  have hk1:¬ (k:Int)<(xs.length:Int):=by omega
  have HZ:jC (bE p xs 0=-1):=fA (by rw [<- HR.out];exact kR p xs (by omega))
  go_wp2
  go_ret
  exact ⟨by rw [HZ.out];rfl,hw⟩
theorem zKe (A : Option mB) (c : Nat) (xs : List Le) (g : Nat) (lb : Array uB) (eg : ∀ args w, (xG g args).run prog w = .ok (.enter g args) w) (p : Le -> Bool) (w : uA) (h : yB vU w A c xs) (hp : yR g lb (fun x : Le => vE (vU x).toArray) p w) : iA prog 326 #[.slice A xs.length c, .func (.func g) #[] lb] w fun e w' => e = .returned (.int .i64 (bE p xs 0)) /\ Below w.heap.size w w' := by
 have HI:=fA h
 have HP:=fA hp
 have hmx:=h.max
 have hb0:=xC w
 have HR0:jC (bE p (xs.drop 0) 0=bE p xs 0):=fA rfl
 clear h hp
 go_enter func326,ntmps326
 go_wp2
 go_loopw [5,8] (fun v i wr=>∃ (k:Nat),k<=xs.length/\i=.int .i64 (k:Int)/\jC (bE p (xs.drop k) k=bE p xs 0)/\Below w.heap.size w wr) (fun _ i _=>xs.length - (intOf i).toNat)
 case atStart=>exact ⟨0,by omega,rfl,HR0,hb0⟩
 case round =>
  clear hb0 HR0
  obtain ⟨k,hk,rfl,HR,hw⟩:=hrel
  have hk0:(0:Int)<=(k:Int):=by omega
  by_cases hlt:k<xs.length
  ·have hk1:(k:Int)<(xs.length:Int):=by omega
   have HS:=fA (iU p xs hlt)
   obtain ⟨b,off,rfl,blt,c0,c1,c2,c3,c4⟩:=zBd (HI.out.below hw) hlt
   generalize (xs[k]'hlt)=x at *
   obtain ⟨x1,x2,x3,x4,x5⟩:=x
   simp only at c0 c1 c2 c3 c4
   have HC:jC (iA prog g (#[.agg #[x1,x2,x3,x4,x5]] ++ lb) wr fun e w'=>e=.returned (.bool (p (x1,x2,x3,x4,x5)))/\Below wr.heap.size wr w'):=fA (HP.out wr (x1,x2,x3,x4,x5) hw)
   generalize p (x1,x2,x3,x4,x5)=q at *
   cases q with
   | true =>
    have HZ:jC (bE p xs 0=(k:Int)):=fA (by rw [<- HR.out,HS.out,if_pos rfl])
    go_wp2_with (go_at_fn g;refine HC.out.mono ?_;rintro e w1 ⟨rfl,hb1⟩;have hw1:=hw.trans (hb1.mono hw.size))
    go_ret
    exact ⟨by rw [HZ.out];rfl,hw1⟩
   | false =>
    have HZ:jC (bE p (xs.drop (k+1)) (k+1)=bE p xs 0):=fA (by rw [<- HR.out,HS.out,if_neg (by decide)])
    go_wp2_with (go_at_fn g;refine HC.out.mono ?_;rintro e w1 ⟨rfl,hb1⟩;have hw1:=hw.trans (hb1.mono hw.size))
    go_roundw
    case rel=>exact ⟨k+1,by omega,by go_num,HZ,hw1⟩
    case measure=>simp [intOf];omega
  have hk1:¬ (k:Int)<(xs.length:Int):=by omega
  have HZ:jC (bE p xs 0=-1):=fA (by rw [<- HR.out];exact kR p xs (by omega))
  go_wp2
  go_ret
  exact ⟨by rw [HZ.out];rfl,hw⟩
theorem zKf (A : Option mB) (c : Nat) (xs : List Nd) (g : Nat) (lb : Array uB) (eg : ∀ args w, (xG g args).run prog w = .ok (.enter g args) w) (p : Nd -> Bool) (w : uA) (h : yB qH w A c xs) (hp : yR g lb (fun x : Nd => vE (qH x).toArray) p w) : iA prog 357 #[.slice A xs.length c, .func (.func g) #[] lb] w fun e w' => e = .returned (.int .i64 (bE p xs 0)) /\ Below w.heap.size w w' := by
 have HI:=fA h
 have HP:=fA hp
 have hmx:=h.max
 have hb0:=xC w
 have HR0:jC (bE p (xs.drop 0) 0=bE p xs 0):=fA rfl
 clear h hp
 go_enter func357,ntmps357
 go_wp2
 go_loopw [5,8] (fun v i wr=>∃ (k:Nat),k<=xs.length/\i=.int .i64 (k:Int)/\jC (bE p (xs.drop k) k=bE p xs 0)/\Below w.heap.size w wr) (fun _ i _=>xs.length - (intOf i).toNat)
 case atStart=>exact ⟨0,by omega,rfl,HR0,hb0⟩
 case round =>
  clear hb0 HR0
  obtain ⟨k,hk,rfl,HR,hw⟩:=hrel
  have hk0:(0:Int)<=(k:Int):=by omega
  by_cases hlt:k<xs.length
  ·have hk1:(k:Int)<(xs.length:Int):=by omega
   have HS:=fA (iU p xs hlt)
   obtain ⟨b,off,rfl,blt,c0,c1,c2,c3⟩:=pR (HI.out.below hw) hlt
   generalize (xs[k]'hlt)=x at *
   obtain ⟨x1,x2,x3,x4⟩:=x
   simp only at c0 c1 c2 c3
   have HC:jC (iA prog g (#[.agg #[x1,x2,x3,x4]] ++ lb) wr fun e w'=>e=.returned (.bool (p (x1,x2,x3,x4)))/\Below wr.heap.size wr w'):=fA (HP.out wr (x1,x2,x3,x4) hw)
   generalize p (x1,x2,x3,x4)=q at *
   cases q with
   | true =>
    have HZ:jC (bE p xs 0=(k:Int)):=fA (by rw [<- HR.out,HS.out,if_pos rfl])
    go_wp2_with (go_at_fn g;refine HC.out.mono ?_;rintro e w1 ⟨rfl,hb1⟩;have hw1:=hw.trans (hb1.mono hw.size))
    go_ret
    exact ⟨by rw [HZ.out];rfl,hw1⟩
   | false =>
    have HZ:jC (bE p (xs.drop (k+1)) (k+1)=bE p xs 0):=fA (by rw [<- HR.out,HS.out,if_neg (by decide)])
    go_wp2_with (go_at_fn g;refine HC.out.mono ?_;rintro e w1 ⟨rfl,hb1⟩;have hw1:=hw.trans (hb1.mono hw.size))
    go_roundw
    case rel=>exact ⟨k+1,by omega,by go_num,HZ,hw1⟩
    case measure=>simp [intOf];omega
  have hk1:¬ (k:Int)<(xs.length:Int):=by omega
  have HZ:jC (bE p xs 0=-1):=fA (by rw [<- HR.out];exact kR p xs (by omega))
  go_wp2
  go_ret
  exact ⟨by rw [HZ.out];rfl,hw⟩
end Go.Proofs.YtogbpifcmhafkaaGreat
