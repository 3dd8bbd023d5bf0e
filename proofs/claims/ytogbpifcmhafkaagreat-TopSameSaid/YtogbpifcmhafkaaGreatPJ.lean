/-
 Part PJ of the proof.
-/
import Derived.Test.YtogbpifcmhafkaaGreatPG
import Derived.Lib.AppendZerosOnto
open Go renaming Addr->mB,Calls->iA,Program->xJ,TypeId->tC,Value->uB,World->uA,callFunc->xG,maxLen->fC,run_callFunc_extern->nK
open Go.Act renaming eval->kH,put->lI
open Go.Addr renaming add_lit->uN
open Go.Builtin renaming append_->kK,copy_->iN,zeroCells->uC
open Go.Instr renaming slice->yF
open Go.Lib renaming wpList_append_run->yH,hid->fA
open Go.Proofs renaming step_copy_runI->tH,wpList_copy_runI->rG
open Go.World renaming ownsRow_nil->nB
open List renaming append_assoc->kE,drop_eq_nil_of_le->fF,getElem?_drop->fI,getElem?_take->dI,length_append->kB,length_drop->vD,length_take->sB,mem_of_mem_drop->wG,take_append_of_le_length->kD,take_of_length_le->zC,take_take->dH
open Nat renaming le_refl->mA,le_trans->pA,min_def->zAL,min_eq_left->wH,mul_le_mul_right->qG,mul_one->vF,sub_mul->zAM,succ_mul->cH
open Option renaming some->yA
namespace Go.Proofs.YtogbpifcmhafkaaGreat
open Go.RowKit Tryz
open Go.Lib(hid)
set_option linter.unusedVariables false
set_option linter.unusedSimpArgs false
set_option maxRecDepth 100000
set_option maxHeartbeats 16000000
theorem nH {w:uA} {F:Nat} {c0 c1 c2 c3:uB} {t:tC} (h:w.heap[F]?=yA (.cells #[c0,c1,c2,c3] t)):w.cell? ⟨F,0,none⟩=yA c0/\w.cell? ⟨F,1,none⟩=yA c1/\w.cell? ⟨F,2,none⟩=yA c2/\w.cell? ⟨F,3,none⟩=yA c3/\w.frozen? ⟨F,0,none⟩=false/\w.frozen? ⟨F,1,none⟩=false/\w.frozen? ⟨F,2,none⟩=false/\w.frozen? ⟨F,3,none⟩=false/\F<w.heap.size :=
 ⟨jA h 0,jA h 1,jA h 2,jA h 3,qB h 0,qB h 1,qB h 2,qB h 3,eB h⟩
theorem pT {w:uA} {F:Nat} {c0 c1 c2 c3:uB} {t:tC} (h:w.heap[F]?=yA (.cells #[c0,c1,c2,c3] t)) (x y z u:uB):((((w.setCell ⟨F,0,none⟩ x).setCell ⟨F,1,none⟩ y).setCell ⟨F,2,none⟩ z).setCell ⟨F,3,none⟩ u).heap[F]?=yA (.cells #[x,y,z,u] t):=by
 have:=zD (i:=3) (zD (i:=2) (zD (i:=1) (zD (i:=0) h x) y) z) u
 simpa using this
theorem mN {B F:Nat} {w0 w:uA} (h:Below B w0 w) (hF:B<=F) (x y z u:uB):Below B w0 ((((w.setCell ⟨F,0,none⟩ x).setCell ⟨F,1,none⟩ y).setCell ⟨F,2,none⟩ z).setCell ⟨F,3,none⟩ u):=(((h.setCell (p:=⟨F,0,none⟩) hF x).setCell (p:=⟨F,1,none⟩) hF y).setCell (p:=⟨F,2,none⟩) hF z).setCell (p:=⟨F,3,none⟩) hF u
def tD (xs:List Nd):List Nd:=if jH 0 xs then xs else []
theorem sV (xs:List Nd):(tD xs).length<=xs.length:=by unfold tD;split <;> simp
def nfn (xs:List Nd) (t:Int):Nat -> Int:=fun m=>gK (xs.getD m (0,0,0,0)).1 t
theorem zDs (A:Option mB) (c:Nat) (xs:List Nd) (w:uA) (h:yB qH w A c xs):iA prog 313 #[.slice A xs.length c] w (mD 207 4 (tD xs).length (flat qH (tD xs)) w):=by
 have HM:Hid (iA prog 126 #[.slice A xs.length c] w fun e w'=>e=.returned (.bool (jH 0 xs))/\Below w.heap.size w w'):=zBB A c xs w h
 have HC:Hid (∀ W,Below w.heap.size w W -> iA prog 190 #[.slice A xs.length c] W (mD 207 4 xs.length (flat qH xs) W)):=fun W hb=>zEd A c xs.length (flat qH xs) W (h.row.below hb) h.none_ (jD yO xs) (jF zCD xs) h.max
 unfold tD
 cases hok:jH 0 xs with
 | true =>
  rw [hok] at HM
  rw [if_pos rfl]
  clear hok h
  go_enter func313,ntmps313
  go_wp2_with (first
   | (go_at_call 126;refine HM.out.mono ?_;rintro e w1 ⟨rfl,hb1⟩)
   | (go_at_call 190;refine (HC.out _ hb1).mono ?_;rintro e w2 ⟨A2,c2,rfl,own2,hb2⟩))
  go_ret
  exact ⟨A2,c2,rfl,oC own2 hb1.size,hb1.trans (hb2.mono hb1.size)⟩
 | false =>
  rw [hok] at HM
  rw [if_neg (by decide)]
  clear hok h
  go_enter func313,ntmps313
  go_wp2_with (go_at_call 126;refine HM.out.mono ?_;rintro e w1 ⟨rfl,hb1⟩)
  go_ret
  exact ⟨none,0,rfl,nB _ _ _ _,hb1⟩
theorem zCG (A:Option mB) (c:Nat) (xs:List Nd) (t:Int) (w:uA) (h:yB qH w A c xs):iA prog 314 #[.slice A xs.length c,t] w fun e w'=>e=.returned (.tuple #[.int .i64 (iT (nfn xs t) xs.length),.bool (kL (nfn xs t) xs.length)])/\Below w.heap.size w w':=by
 have HB:=fA (zQe A c xs t w h)
 clear h
 go_enter func314,ntmps314
 go_wp2_with (go_at_call 354;refine HB.out.mono ?_;rintro e w1 ⟨rfl,hb1⟩)
 go_ret2
 exact ⟨rfl,hb1⟩
def kJ (xs:List Nd) (t:Int):Nd × Bool:=if kL (nfn (tD xs) t) (tD xs).length then ((tD xs).getD (dG (nfn (tD xs) t) 0 (tD xs).length) (0,0,0,0),true) else ((0,0,0,0),false)
theorem rS (A:Option mB) (c:Nat) (xs:List Nd) (t:Int) (w:uA) (h:yB qH w A c xs):iA prog 241 #[.slice A xs.length c,t] w fun e w'=>e=.returned (.tuple #[.agg #[.int .i64 (kJ xs t).1.1,.int .i64 (kJ xs t).1.2.1,.int .i64 (kJ xs t).1.2.2.1,.int .i64 (kJ xs t).1.2.2.2],.bool (kJ xs t).2])/\Below w.heap.size w w':=by
 have hmx:=h.max
 have hfl:=sV xs
 have HFA:Hid (∀ W,Below w.heap.size w W -> iA prog 313 #[.slice A xs.length c] W (mD 207 4 (tD xs).length (flat qH (tD xs)) W)):=fun W hb=>zDs A c xs W (h.below hb)
 have HPL:Hid (∀ W A c,yB qH W A c (tD xs) -> iA prog 314 #[.slice A (tD xs).length c,t] W fun e w'=>e=.returned (.tuple #[.int .i64 (iT (nfn (tD xs) t) (tD xs).length),.bool (kL (nfn (tD xs) t) (tD xs).length)])/\Below W.heap.size W w'):=fun W A c h=>zCG A c (tD xs) t W h
 unfold kJ
 generalize tD xs=ys at *
 have hal:=wA w (.cells #[.int .i64 0,.int .i64 0,.int .i64 0,.int .i64 0] 207)
 have gX:=rB w (.cells #[.int .i64 0,.int .i64 0,.int .i64 0,.int .i64 0] 207)
 clear h
 cases hB:kL (nfn ys t) ys.length with
 | false =>
  rw [hB] at HPL
  simp only [Bool.false_eq_true,if_false]
  clear hB
  go_enter func241,ntmps241
  go_wp2_with (first
   | (go_at_call 313;refine (HFA.out _ hal).mono ?_;rintro e w1 ⟨A1,c1,rfl,own1,hb1⟩;have hw1:=hal.trans (hb1.mono hal.size);have f1:=yB.of_own (enc:=qH) own1 (by omega);have g1:=kA hb1 gX)
   | (go_at_call 314;refine (HPL.out _ _ _ f1).mono ?_;rintro e w2 ⟨rfl,hb2⟩;have hw2:=hw1.trans (hb2.mono hw1.size);have g2:=kA hb2 g1;obtain ⟨d0,d1,d2,d3,df0,df1,df2,df3,dlt⟩:=nH g2))
  obtain ⟨z0,z1,z2,z3,_,_,_,_,zlt⟩:=nH (pT g2 (.int .i64 0) (.int .i64 0) (.int .i64 0) (.int .i64 0))
  refine bodyPost_ret (v:=.tuple #[.agg #[.int .i64 0,.int .i64 0,.int .i64 0,.int .i64 0],.bool false]) (by simp [results,results241,go_sem,z0,z1,z2,z3];try rfl) rfl ?_
  exact ⟨rfl,mN hw2 (mA _) _ _ _ _⟩
 | true =>
  rw [hB] at HPL
  simp only [if_true]
  have hB2:dG (nfn ys t) 0 ys.length<ys.length:=by unfold kL at hB;simp at hB;exact hB.1
  have hi:iT (nfn ys t) ys.length=((dG (nfn ys t) 0 ys.length:Nat):Int):=rfl
  rw [hi] at HPL
  clear hB hi
  generalize dG (nfn ys t) 0 ys.length=m at *
  have hm0:(0:Int)<=(m:Int):=by omega
  have hm1:(m:Int)<(ys.length:Int):=by omega
  rw [List.getD_eq_getElem?_getD,List.getElem?_eq_getElem hB2,Option.getD_some]
  obtain ⟨x,hx⟩:∃ x,ys[m]'hB2=x:=⟨_,rfl⟩
  rw [hx]
  obtain ⟨x1,x2,x3,x4⟩:=x
  have HX:=fA hx
  clear hx
  simp only
  go_enter func241,ntmps241
  go_upto_region 5 with (first
   | (go_at_call 313;refine (HFA.out _ hal).mono ?_;rintro e w1 ⟨A1,c1,rfl,own1,hb1⟩;have hw1:=hal.trans (hb1.mono hal.size);have f1:=yB.of_own (enc:=qH) own1 (by omega);have g1:=kA hb1 gX)
   | (go_at_call 314;refine (HPL.out _ _ _ f1).mono ?_;rintro e w2 ⟨rfl,hb2⟩;have hw2:=hw1.trans (hb2.mono hw1.size);have g2:=kA hb2 g1;have f2:=f1.below hb2;obtain ⟨d0,d1,d2,d3,df0,df1,df2,df3,dlt⟩:=nH g2))
  obtain ⟨b,off,rfl,blt,c0,c1',c2,c3⟩:=pR f2 hB2
  rw [HX.out] at c0 c1' c2 c3
  simp only at c0 c1' c2 c3
  go_wp2
  obtain ⟨z0,z1,z2,z3,_,_,_,_,zlt⟩:=nH (pT g2 (.int .i64 x1) (.int .i64 x2) (.int .i64 x3) (.int .i64 x4))
  refine bodyPost_ret (v:=.tuple #[.agg #[x1,x2,x3,x4],.bool true]) (by simp [results,results241,go_sem,z0,z1,z2,z3];try rfl) rfl ?_
  exact ⟨rfl,mN hw2 (mA _) _ _ _ _⟩
theorem zGx {w:uA} {b:Nat} {cs:Array uB} {t:tC} (h:w.heap[b]?=yA (.cells cs t)):w.shape? b=yA (t,cs.size):=by simp [World.shape?,h]
theorem dC.of_blk {w:uA} {V:Nat} {x:List uB} {e:tC} (hV:w.heap[V]?=yA (.cells x.toArray e)):dC w (yA ⟨V,0,none⟩) x:=.inr ⟨V,0,rfl,eB hV,fun i u hi=>by rw [jA hV,Nat.zero_add];simpa using hi⟩
section
variable {P:xJ} {t e:tC} {z:uB} {k bytes:Nat}
def eZ (P:xJ) (f:FuncId) (e:tC) (k:Nat):Prop:=∀ (base g c n i V:Nat) (xs x:List uB) (w:uA),w.ownsRow base e k (.slice (yA ⟨g,0,none⟩) n c) n xs -> w.heap[V]?=yA (.cells x.toArray e) -> V≠g -> x.length=k -> (∀ u ∈ xs,u.oneCell'=true) -> (∀ u ∈ x,u.oneCell'=true) -> i<n -> n+1<=c -> n<=1000000 ->
 iA P f #[.slice (yA ⟨g,0,none⟩) n c,(i:Int),.slice (yA ⟨V,0,none⟩) 1 1] w fun en w'=>en=.returned (.slice (yA ⟨g,0,none⟩) (n+1) c)/\w'.ownsRow base e k (.slice (yA ⟨g,0,none⟩) (n+1) c) (n+1) (xs.take (i * k) ++ x ++ xs.drop (i * k))/\fD [g] w w'
def cZ (P:xJ) (f:FuncId) (e:tC) (k:Nat):Prop:=∀ (base g c n i V:Nat) (xs x:List uB) (w:uA),w.ownsRow base e k (.slice (yA ⟨g,0,none⟩) n c) n xs -> w.heap[V]?=yA (.cells x.toArray e) -> x.length=k -> (∀ u ∈ xs,u.oneCell'=true) -> (∀ u ∈ x,u.oneCell'=true) -> i<n -> c<n+1 -> n<=1000000 ->
 iA P f #[.slice (yA ⟨g,0,none⟩) n c,(i:Int),.slice (yA ⟨V,0,none⟩) 1 1] w (mD e k (n+1) (xs.take (i * k) ++ x ++ xs.drop (i * k)) w)
def zCl (P:xJ) (f:FuncId) (e:tC) (k:Nat):Prop:=∀ (base c n V:Nat) (A:Option mB) (xs x:List uB) (w:uA),base<=w.heap.size -> w.ownsRow base e k (.slice A n c) n xs -> w.heap[V]?=yA (.cells x.toArray e) -> x.length=k -> (∀ u ∈ x,u.oneCell'=true) -> n<=1000000 ->
 iA P f #[.slice A n c,(n:Int),.slice (yA ⟨V,0,none⟩) 1 1] w (zDl e k (n+1) (xs ++ x) base A w)
abbrev zCk (P:xJ) (f:FuncId) (e:tC) (k:Nat):Prop:=∀ (base c n i V:Nat) (A:Option mB) (xs x:List uB) (w:uA),base<=w.heap.size -> w.ownsRow base e k (.slice A n c) n xs -> w.heap[V]?=yA (.cells x.toArray e) -> V ∉ zB A -> x.length=k -> (∀ u ∈ xs,u.oneCell'=true) -> (∀ u ∈ x,u.oneCell'=true) -> i<=n -> n<=1000000 ->
 iA P f #[.slice A n c,(i:Int),.slice (yA ⟨V,0,none⟩) 1 1] w (zDl e k (n+1) (xs.take (i * k) ++ x ++ xs.drop (i * k)) base A w)
theorem zBz {f:FuncId} (hR:eZ P f e k) (hG:cZ P f e k) (hE:zCl P f e k):zCk P f e k:=by
 intro base c n i V A xs x w hbase ho hV hne hx h1 h1x hi hs
 have hxl:=ho.1
 by_cases he:i=n
 ·subst he
  rw [zC (by omega),fF (by omega),List.append_nil]
  exact hE base c i V A xs x w hbase ho hV hx h1x hs
 have hin:i<n:=by omega
 obtain ⟨g,rfl⟩:∃ g,A=yA ⟨g,0,none⟩:=by
  obtain ⟨g,c',hv,_⟩:=ho.form (by omega)
  injection hv with e
  exact ⟨g,e⟩
 by_cases hr:n+1<=c
 ·refine (hR base g c n i V xs x w ho hV (fun e=>hne (by simp [zB,e])) hx h1 h1x hin hr hs).mono ?_
  rintro e w' ⟨rfl,h2,h3⟩
  exact ⟨_,_,rfl,h2,h3,fun b hb=>.inl hb⟩
 ·refine (hG base g c n i V xs x w ho hV hx h1 h1x hin (by omega) hs).mono ?_
  rintro e w' ⟨A',c',rfl,h2,h3⟩
  exact ⟨A',c',rfl,oC h2 hbase,fD.of_below h3,fun b hb=>.inr (qC h2 b hb).1⟩
theorem zOq (E:oQ P t e z k bytes) {g n c i:Nat} (h1:i<=n+1) (h2:¬ c=i) (W:uA):(yF t (.slice (yA ⟨g,0,none⟩) (n+1) c) (yA (.int .i64 (i:Int))) none none).run P W=.ok (.slice (yA ⟨g,i * k,none⟩) (n+1 - i) (c - i)) W:=by
 rw [eK E (yA ⟨g,0,none⟩) (n+1) c i h1 W]
 unfold cutS
 rw [if_neg h2]
 simp [Addr.add]
 exact fun h=>h.symm
theorem yZ (E : oQ P t e z k bytes) {f : FuncId} {tb : tC} (hE : ∀ args w, (xG f args).run P w = ((Extern.SlicesOverlaps.overlaps #[t, t] #[tb] args).run P w).andThen fun v w' => .ok (.value v) w') {base g c n i V : Nat} {xs x : List uB} {w : uA}
  (ho:w.ownsRow base e k (.slice (yA ⟨g,0,none⟩) n c) n xs) (hV:w.heap[V]?=yA (.cells x.toArray e)) (hne:V≠g) (hx:x.length=k) (h1:∀ u ∈ xs,u.oneCell'=true) (h1x:∀ u ∈ x,u.oneCell'=true) (hi:i<n) (hr:n+1<=c) (hs:n<=1000000) :
  ∃ W1 W2 : uA, (∀ lb cb, (xG f #[.slice (yA ⟨V, 0, none⟩) 1 1, .slice (yA ⟨g, (i + 1) * k, none⟩) lb cb]).run P w = .ok (.value (.bool false)) w) /\
   (∀ ty dc sc,(iN #[t,t] ty #[.slice (yA ⟨g,(i+1) * k,none⟩) (n - i) dc,.slice (yA ⟨g,i * k,none⟩) (n+1 - i) sc]).run P w.drew=.ok (goInt (n - i:Nat)) W1) /\
   (∀ ty dc,(iN #[t,t] ty #[.slice (yA ⟨g,i * k,none⟩) (n+1 - i) dc,.slice (yA ⟨V,0,none⟩) 1 1]).run P W1=.ok (goInt (1:Nat)) W2) /\
   (∀ W,(yF t (.slice (yA ⟨g,0,none⟩) (n+1) c) (yA (.int .i64 ((i:Int)+1))) none none).run P W=.ok (.slice (yA ⟨g,(i+1) * k,none⟩) (n - i) (c - (i+1))) W) /\
   (∀ W,(yF t (.slice (yA ⟨g,0,none⟩) (n+1) c) (yA (.int .i64 (i:Int))) none none).run P W=.ok (.slice (yA ⟨g,i * k,none⟩) (n+1 - i) (c - i)) W) /\
   Hid (W2.ownsRow base e k (.slice (yA ⟨g,0,none⟩) (n+1) c) (n+1) (xs.take (i * k) ++ x ++ xs.drop (i * k))/\fD [g] w W2) /\
   IntKind.i64.wrap ((i:Int)+1)=(i:Int)+1/\(0:Int)<=(i:Int)+1/\(i:Int)+1<=(n:Int)+1/\(i:Int)<=(n:Int)+1/\((i:Int)+1).toNat=i+1/\¬ (c=i+1)/\¬ (c=i)/\(0:Int)<=(i:Int)/\(i:Int)<=(n:Int)/\¬ ((i:Int)=(n:Int))/\¬ ((c:Int)<(n:Int)+1)/\c<=9223372036854775807:=by
 obtain ⟨hxl,h0 | ⟨g',c',cur,hv,hg,hh,hnc,hcm,hsz,htk⟩⟩:=ho
 ·cases h0.1
 injection hv with e1 _ e3
 injection e1 with e1
 injection e1 with e1
 subst e1 e3
 have p1:(i+1) * k=i * k+k:=cH _ _
 have p2:(i+1) * k<=n * k:=qG _ hi
 have p3:(n+1) * k<=c * k:=qG _ hr
 have p4:(n+1) * k=n * k+k:=cH _ _
 have p5:(n - i) * k=n * k - i * k:=zAM _ _ _
 have kp:=E.pos
 have hxs:∀ t u,xs[t]?=yA u -> cur[t]?=yA u:=fun t u hu=>by
  rw [<- htk,dI] at hu
  split at hu
  ·simpa using hu
  ·cases hu
 have hcell:∀ (t:Nat),t<c * k -> (w.cell? ⟨g,t,none⟩).isSome=true:=fun t ht=>by
  rw [jA hh];simp;omega
 obtain ⟨D,hD⟩:∃ D,D=xs.drop (i * k):=⟨_,rfl⟩
 have hDl:D.length=(n - i) * k:=by rw [hD,vD,hxl];omega
 have hov:∀ lb cb,(xG f #[.slice (yA ⟨V,0,none⟩) 1 1,.slice (yA ⟨g,(i+1) * k,none⟩) lb cb]).run P w=.ok (.value (.bool false)) w:=fun lb cb=>by
  rw [hE,Lib.run_overlaps_apart w t tb e E.under k E.sizeOf ⟨V,0,none⟩ ⟨g,(i+1) * k,none⟩ 1 1 lb cb hne _ _ _ _ (zGx hV) (zGx hh) (by rw [hsz];omega) (qB hV _) (qB hV _)]
  rfl
 have hcp1:∀ ty dc sc,(iN #[t,t] ty #[.slice (yA ⟨g,(i+1) * k,none⟩) (n - i) dc,.slice (yA ⟨g,i * k,none⟩) (n+1 - i) sc]).run P w.drew=.ok (goInt (n - i:Nat)) (w.drew.setCells g ((i+1) * k) D):=fun ty dc sc =>
  zAl w.drew E ty g ((i+1) * k) (n - i) dc ⟨g,i * k,none⟩ (n+1 - i) sc (n - i) D (by simp only [zAL];split <;> omega) hDl
   (fun j v hj=>by
    rw [uN]
    rw [hD,fI] at hj
    exact (jA hh _).trans (hxs _ v hj))
   (fun j hj=>hcell _ (by omega)) (fun j hj=>qB hh _) (fun v hv=>h1 v (by rw [hD] at hv;exact wG hv))
 have hB1:(w.drew.setCells g ((i+1) * k) D).heap[g]?=yA (.cells (zEa cur ((i+1) * k) D) e):=uI D _ w.drew cur hh
 have hC1:fD [g] w (w.drew.setCells g ((i+1) * k) D):=rK (by simp) D _ (fD.refl _ _).drew
 have hV1:=hC1.keep hV (by simpa using hne)
 generalize w.drew.setCells g ((i+1) * k) D=W1 at *
 refine ⟨W1,W1.setCells g (i * k) x,hov,hcp1,fun ty dc=>zAl W1 E ty g (i * k) (n+1 - i) dc ⟨V,0,none⟩ 1 1 1 x (by simp only [zAL];split <;> omega) (by omega)
   (fun j v hj=>by
    rw [uN,jA hV1]
    simpa using hj)
   (fun j hj=>by rw [jA hB1];simp [jG];omega) (fun j hj=>qB hB1 _) h1x,fun W => ?_,zOq E (by omega) (by omega),fA ⟨⟨by simp only [kB,sB,vD,hxl,hx];omega,.inr ⟨g,c,_,rfl,hg,uI x (i * k) W1 _ hB1,by omega,hcm,by rw [jG,jG];exact hsz,?_⟩⟩,rK (by simp) x _ hC1⟩,oH (by omega) (by omega),by omega,by omega,by omega,by omega,by omega,by omega,by omega,by omega,by omega,by omega,by unfold fC at hcm;omega⟩
 ·have:=zOq E (g:=g) (n:=n) (c:=c) (i:=i+1) (by omega) (by omega) W
  rw [show (((i+1:Nat)):Int)=(i:Int)+1 by omega,show n+1 - (i+1)=n - i by omega] at this
  exact this
 ·have e0:cur.toList.length=c * k:=by simpa using hsz
  have e1:cur.toList.take (i * k)=xs.take (i * k):=by rw [<- htk,dH,wH (by omega)]
  rw [dJ _ _ _ (by rw [jG];omega),dJ _ _ _ (by omega),<- hD]
  have f1:((cur.toList.take ((i+1) * k) ++ D ++ cur.toList.drop ((i+1) * k+D.length)).take (i * k))=xs.take (i * k):=by
   rw [kE,kD (by rw [sB];omega),dH,wH (by omega),e1]
  have f2:((cur.toList.take ((i+1) * k) ++ D ++ cur.toList.drop ((i+1) * k+D.length)).drop (i * k+x.length))=D ++ cur.toList.drop ((i+1) * k+D.length):=by
   rw [kE,List.drop_append,fF (by rw [sB];omega),sB,show i * k+x.length - min ((i+1) * k) cur.toList.length=0 by omega]
   rfl
  rw [f1,f2,<- kE,kD (by simp only [kB,sB,hxl,hx,hDl];omega),zC (by simp only [kB,sB,hxl,hx,hDl];omega)]
theorem qW {b base:Nat} (hb:base<=b) {w:uA}:∀ (vs:List uB) (o:Nat) (W:uA),Below base w W -> Below base w (W.setCells b o vs)
 | [],_,_,h=>h
 | v :: vs,o,_,h=>qW hb vs _ _ (h.setCell (p:=⟨b,o,none⟩) hb v)
theorem qZ (E:oQ P t e z k bytes) {ti:tC} (hti:P.underlying ti=yA (.int .i64)) (hby:bytes<=256) {base g c n i V:Nat} {xs x:List uB} {w:uA}
  (ho:w.ownsRow base e k (.slice (yA ⟨g,0,none⟩) n c) n xs) (hV:w.heap[V]?=yA (.cells x.toArray e)) (hx:x.length=k) (h1:∀ u ∈ xs,u.oneCell'=true) (h1x:∀ u ∈ x,u.oneCell'=true) (hi:i<n) (hr:c<n+1) (hs:n<=1000000) :
  ∃ H G W1 W2 W3, (∀ ty, (kK #[t, ti] ty #[.slice (yA ⟨g, 0, none⟩) i c, .int .i64 ((n : Int) + 1 - (i : Int))]).run P w = .ok (.slice (yA ⟨H, 0, none⟩) (n + 1) G) W1) /\
   (∀ ty dc,(iN #[t,t] ty #[.slice (yA ⟨H,i * k,none⟩) (n+1 - i) dc,.slice (yA ⟨V,0,none⟩) 1 1]).run P W1=.ok (goInt (1:Nat)) W2) /\
   (∀ ty dc sc,(iN #[t,t] ty #[.slice (yA ⟨H,(i+1) * k,none⟩) (n - i) dc,.slice (yA ⟨g,i * k,none⟩) (n - i) sc]).run P W2.drew=.ok (goInt (n - i:Nat)) W3) /\
   Hid (W3.ownsRow w.heap.size e k (.slice (yA ⟨H,0,none⟩) (n+1) G) (n+1) (xs.take (i * k) ++ x ++ xs.drop (i * k))/\Below w.heap.size w W3) /\
   IntKind.i64.wrap ((i:Int)+1)=(i:Int)+1/\(0:Int)<=(i:Int)+1/\(i:Int)+1<=(n:Int)+1/\(i:Int)<=(n:Int)+1/\((i:Int)+1).toNat=i+1/\¬ (G=i)/\¬ (G=i+1)/\¬ (c=i)/\(0:Int)<=(i:Int)/\(i:Int)<=(n:Int)/\(i:Int)<=(c:Int)/\¬ ((i:Int)=(n:Int))/\(c:Int)<(n:Int)+1/\c<=9223372036854775807/\G<=9223372036854775807:=by
 obtain ⟨hxl,h0 | ⟨g',c',cur,hv,hg,hh,hnc,hcm,hsz,htk⟩⟩:=ho
 ·cases h0.1
 injection hv with e1 _ e3
 injection e1 with e1
 injection e1 with e1
 subst e1 e3
 have p1:(i+1) * k=i * k+k:=cH _ _
 have p2:(i+1) * k<=n * k:=qG _ hi
 have p4:(n+1) * k=n * k+k:=cH _ _
 have p5:(n - i) * k=n * k - i * k:=zAM _ _ _
 have kp:=E.pos
 have hxs:∀ t u,xs[t]?=yA u -> cur[t]?=yA u:=fun t u hu=>by
  rw [<- htk,dI] at hu
  split at hu
  ·simpa using hu
  ·cases hu
 have hbw:=eB hh
 have hvw:=eB hV
 obtain ⟨i0,hi0,hz0,hzs,hzb⟩:=info_parts E.info
 have hik:i+(n+1 - i)=n+1:=by omega
 have hkk:(n:Int)+1 - (i:Int)=((n+1 - i:Nat):Int):=by omega
 have hold:(Builtin.firstCells i0.size i (.slice (yA ⟨g,0,none⟩) i c)).run P w.drew=.ok (xs.take (i * k)).toArray w.drew:=by
  rw [hzs]
  exact run_firstCells_some w.drew k i ⟨g,0,none⟩ i c (xs.take (i * k)) (by rw [sB,hxl];omega) (fun j v hj=>by
   rw [uN]
   rw [dI] at hj
   split at hj
   ·exact (jA hh _).trans (hxs _ v (by simpa using hj))
   ·cases hj)
 obtain ⟨G,hG⟩:∃ G,G=grownCap w (n+1) c e:=⟨_,rfl⟩
 have hGn:n+1<=G:=by rw [hG];exact grownCap_ge w _ _ _
 have hGm:G<=fC:=by rw [hG];exact grownCap_le_maxLen w (n+1) c _ (by unfold fC;omega)
 have p6:(n+1) * k<=G * k:=qG _ hGn
 have p7:(G - (n+1)) * k=G * k - (n+1) * k:=zAM _ _ _
 have p8:(n+1 - i) * k=(n+1) * k - i * k:=zAM _ _ _
 have hzz:∀ m,(uC z.cells m).size=m * k:=fun m=>by simp [uC,E.cells]
 have hb9:(n+1) * bytes<=(n+1) * 256:=Nat.mul_le_mul_left _ hby
 have hrz:∀ ty,(kK #[t,ti] ty #[.slice (yA ⟨g,0,none⟩) i c,.int .i64 ((n:Int)+1 - (i:Int))]).run P w =
   .ok (.slice (yA ⟨w.heap.size,0,none⟩) (n+1) G) (w.drew.alloc (.cells ((xs.take (i * k)).toArray ++ uC z.cells (n+1 - i) ++ uC z.cells (G - (n+1))) e)):=fun ty=>by
  have h:=Lib.run_append_grow_zeros w t ti ty e i0 _ .i64 .i64 E.under hti hi0 hz0 (yA ⟨g,0,none⟩) i c (xs.take (i * k)) hold (n+1 - i) (by omega) (by omega) (by omega) (by omega) (by rw [hzb];exact pA (Nat.mul_le_mul (by omega:n+1 - i<=n+1) hby) (by omega)) (by rw [hzb,hik];exact growslice_fits hr (by omega))
  rw [hik,<- hG] at h
  rw [hkk]
  exact h
 obtain ⟨ROW,hROW⟩:∃ ROW:Array uB,ROW=(xs.take (i * k)).toArray ++ uC z.cells (n+1 - i) ++ uC z.cells (G - (n+1)):=⟨_,rfl⟩
 rw [<- hROW] at hrz
 have hRl:ROW.size=G * k:=by
  rw [hROW,Array.size_append,Array.size_append,hzz,hzz]
  simp only [List.size_toArray,sB,hxl]
  omega
 have hRt:ROW.toList.take (i * k)=xs.take (i * k):=by
  have e:ROW.toList=xs.take (i * k) ++ ((uC z.cells (n+1 - i)).toList ++ (uC z.cells (G - (n+1))).toList):=by rw [hROW];simp
  rw [e,kD (by rw [sB,hxl];omega),dH,Nat.min_self]
 have hB1:(w.drew.alloc (.cells ROW e)).heap[w.heap.size]?=yA (.cells ROW e):=rB w.drew _
 have hb1:Below w.heap.size w (w.drew.alloc (.cells ROW e)):=(xC w).drew.alloc (mA _) _
 have hg1:=kA hb1 hh
 have hV1:=kA hb1 hV
 generalize w.drew.alloc (.cells ROW e)=W1 at *
 obtain ⟨H,hH⟩:∃ H,H=w.heap.size:=⟨_,rfl⟩
 rw [<- hH] at hrz hB1
 obtain ⟨D,hD⟩:∃ D,D=xs.drop (i * k):=⟨_,rfl⟩
 have hDl:D.length=(n - i) * k:=by rw [hD,vD,hxl];omega
 have hgH:g≠H:=by omega
 have hq1:(W1.setCells H (i * k) x).drew.heap[g]?=yA (.cells cur e):=(rK (S:=[H]) (by simp) x _ (fD.refl _ W1)).keep hg1 (by simpa using hgH)
 have hq2:(W1.setCells H (i * k) x).drew.heap[H]?=yA (.cells (zEa ROW (i * k) x) e):=uI x (i * k) W1 ROW hB1
 refine ⟨H,G,W1,_,_,hrz,fun ty dc=>zAl W1 E ty H (i * k) (n+1 - i) dc ⟨V,0,none⟩ 1 1 1 x (by simp only [zAL];split <;> omega) (by omega)
   (fun j v hj=>by
    rw [uN,jA hV1]
    simpa using hj)
   (fun j hj=>by rw [jA hB1];simp;omega) (fun j hj=>qB hB1 _) h1x,fun ty dc sc=>zAl _ E ty H ((i+1) * k) (n - i) dc ⟨g,i * k,none⟩ (n - i) sc (n - i) D (by simp only [zAL];split <;> omega) hDl
   (fun j v hj=>by
    rw [uN]
    rw [hD,fI] at hj
    exact (jA hq1 _).trans (hxs _ v hj))
   (fun j hj=>by rw [jA hq2];simp [jG];omega) (fun j hj=>qB hq2 _) (fun v hv=>h1 v (by rw [hD] at hv;exact wG hv)),fA ⟨⟨by simp only [kB,sB,vD,hxl,hx];omega,.inr ⟨H,G,_,rfl,by omega,uI D _ _ _ hq2,by omega,hGm,by rw [jG,jG];exact hRl,?_⟩⟩,qW (by omega) _ _ _ (qW (by omega) _ _ _ hb1).drew⟩,oH (by omega) (by omega),by omega,by omega,by omega,by omega,by omega,by omega,by omega,by omega,by omega,by omega,by omega,by omega,by unfold fC at hcm;omega,by unfold fC at hGm;omega⟩
 have e0:ROW.toList.length=G * k:=by simpa using hRl
 rw [dJ _ _ _ (by rw [jG];omega),dJ _ _ _ (by omega),<- hD,hRt]
 have f1:((xs.take (i * k) ++ x ++ ROW.toList.drop (i * k+x.length)).take ((i+1) * k))=xs.take (i * k) ++ x:=by
  rw [kD (by simp only [kB,sB,hxl,hx];omega),zC (by simp only [kB,sB,hxl,hx];omega)]
 rw [f1,kD (by simp only [kB,sB,hxl,hx,hDl];omega),zC (by simp only [kB,sB,hxl,hx,hDl];omega)]
end
theorem zKk:eZ prog 334 65 4:=by
 intro base g c n i V xs x w ho hV hne hx h1 h1x hi hr hs
 have q:=yZ zGX (tb:=4) (nK func363 (by kernel_rfl) (by kernel_rfl) (by kernel_rfl) (by kernel_rfl)) ho hV hne hx h1 h1x hi hr hs
 obtain ⟨W1,W2,hov,c1,c2,s1,s2,HF,a1,a2,a3,a4,a5,a6,a7,a8,a9,b1,b2,b3⟩:=q
 clear ho hV hx h1 h1x hr hne
 go_enter func334,ntmps334
 go_wp2_with (simp only [hov])
 go_region_law (refine tH rfl _ _ 48 48 rfl _ _ (by simp [kH,lI]) (by simp [kH,lI]) (c1 _ _ _) ?_)
 all_goals go_wp2_with (at_builtin;refine rG _ rfl _ _ 48 48 rfl _ _ rfl rfl (c2 _ _) ?_)
 all_goals go_ret
 all_goals exact ⟨rfl,HF.out⟩
theorem zKj:cZ prog 334 65 4:=by
 intro base g c n i V xs x w ho hV hx h1 h1x hi hr hs
 have q:=qZ zGX underlying3 (by omega) ho hV hx h1 h1x hi hr hs
 obtain ⟨H,G,W1,W2,W3,hz,c1,c2,HF,a1,a2,a3,a4,a5,a6,a7,a8,a9,b1,b2,b3,b4,b5,b6⟩:=q
 clear ho hV hx h1 h1x
 go_enter func334,ntmps334
 go_wp2_with (first
  | (at_builtin;refine yH _ rfl _ _ _ _ rfl _ _ rfl rfl _ _ (hz _) ?_)
  | (at_builtin;refine rG _ rfl _ _ 48 48 rfl _ _ rfl rfl (c1 _ _) ?_))
 go_region_law (refine tH rfl _ _ 48 48 rfl _ _ (by simp [kH,lI]) (by simp [kH,lI]) (c2 _ _ _) ?_)
 all_goals go_wp2
 all_goals go_ret
 all_goals exact ⟨_,_,rfl,HF.out⟩
theorem zMg:zCl prog 334 65 4:=by
 intro base c n V A xs x w hb ho hV hx h1x hs
 have hr:dC w (yA ⟨V,0,none⟩) x:=dC.of_blk hV
 have hnc:=fP ho
 have hm0:(0:Int)<=(n:Int):=by omega
 have HO:=fA ho
 have HX:=fA hx
 have HR:=fA hr
 clear ho hx hr
 go_enter func334,ntmps334
 go_wp2_with (at_builtin;refine yC rfl (.tmp 23) (.tmp 24) rfl zGX base (.slice A n c) n xs (by rfl) HO.out (yA ⟨V,0,none⟩) 1 1 x (by rfl) (by rw [HX.out]) HR.out h1x (by unfold fC;omega) (by omega) hb (fun h=>by cases h) ?_;intro a1 c1 w1 hown hg hat)
 all_goals go_ret
 all_goals exact ⟨a1,c1,rfl,hown,tE hg,wF hat⟩
theorem zMf:zCk prog 334 65 4:=zBz zKk zKj zMg
theorem zKi:eZ prog 133 173 2:=by
 intro base g c n i V xs x w ho hV hne hx h1 h1x hi hr hs
 have q:=yZ zGW (tb:=4) (nK func218 (by kernel_rfl) (by kernel_rfl) (by kernel_rfl) (by kernel_rfl)) ho hV hne hx h1 h1x hi hr hs
 obtain ⟨W1,W2,hov,c1,c2,s1,s2,HF,a1,a2,a3,a4,a5,a6,a7,a8,a9,b1,b2,b3⟩:=q
 clear ho hV hx h1 h1x hr hne
 go_enter func133,ntmps133
 go_wp2_with (simp only [hov])
 go_region_law (refine tH rfl _ _ 52 52 rfl _ _ (by simp [kH,lI]) (by simp [kH,lI]) (c1 _ _ _) ?_)
 all_goals go_wp2_with (at_builtin;refine rG _ rfl _ _ 52 52 rfl _ _ rfl rfl (c2 _ _) ?_)
 all_goals go_ret
 all_goals exact ⟨rfl,HF.out⟩
theorem zKh:cZ prog 133 173 2:=by
 intro base g c n i V xs x w ho hV hx h1 h1x hi hr hs
 have q:=qZ zGW underlying3 (by omega) ho hV hx h1 h1x hi hr hs
 obtain ⟨H,G,W1,W2,W3,hz,c1,c2,HF,a1,a2,a3,a4,a5,a6,a7,a8,a9,b1,b2,b3,b4,b5,b6⟩:=q
 clear ho hV hx h1 h1x
 go_enter func133,ntmps133
 go_wp2_with (first
  | (at_builtin;refine yH _ rfl _ _ _ _ rfl _ _ rfl rfl _ _ (hz _) ?_)
  | (at_builtin;refine rG _ rfl _ _ 52 52 rfl _ _ rfl rfl (c1 _ _) ?_))
 go_region_law (refine tH rfl _ _ 52 52 rfl _ _ (by simp [kH,lI]) (by simp [kH,lI]) (c2 _ _ _) ?_)
 all_goals go_wp2
 all_goals go_ret
 all_goals exact ⟨_,_,rfl,HF.out⟩
theorem zMe:zCl prog 133 173 2:=by
 intro base c n V A xs x w hb ho hV hx h1x hs
 have hr:dC w (yA ⟨V,0,none⟩) x:=dC.of_blk hV
 have hnc:=fP ho
 have hm0:(0:Int)<=(n:Int):=by omega
 have HO:=fA ho
 have HX:=fA hx
 have HR:=fA hr
 clear ho hx hr
 go_enter func133,ntmps133
 go_wp2_with (at_builtin;refine yC rfl (.tmp 23) (.tmp 24) rfl zGW base (.slice A n c) n xs (by rfl) HO.out (yA ⟨V,0,none⟩) 1 1 x (by rfl) (by rw [HX.out]) HR.out h1x (by unfold fC;omega) (by omega) hb (fun h=>by cases h) ?_;intro a1 c1 w1 hown hg hat)
 all_goals go_ret
 all_goals exact ⟨a1,c1,rfl,hown,tE hg,wF hat⟩
theorem zMd:zCk prog 133 173 2:=zBz zKi zKh zMe
theorem zKo:eZ prog 333 207 4:=by
 intro base g c n i V xs x w ho hV hne hx h1 h1x hi hr hs
 have q:=yZ zCy (tb:=4) (nK func361 (by kernel_rfl) (by kernel_rfl) (by kernel_rfl) (by kernel_rfl)) ho hV hne hx h1 h1x hi hr hs
 obtain ⟨W1,W2,hov,c1,c2,s1,s2,HF,a1,a2,a3,a4,a5,a6,a7,a8,a9,b1,b2,b3⟩:=q
 clear ho hV hx h1 h1x hr hne
 go_enter func333,ntmps333
 go_wp2_with (simp only [hov])
 go_region_law (refine tH rfl _ _ 47 47 rfl _ _ (by simp [kH,lI]) (by simp [kH,lI]) (c1 _ _ _) ?_)
 all_goals go_wp2_with (at_builtin;refine rG _ rfl _ _ 47 47 rfl _ _ rfl rfl (c2 _ _) ?_)
 all_goals go_ret
 all_goals exact ⟨rfl,HF.out⟩
theorem zKn:cZ prog 333 207 4:=by
 intro base g c n i V xs x w ho hV hx h1 h1x hi hr hs
 have q:=qZ zCy underlying3 (by omega) ho hV hx h1 h1x hi hr hs
 obtain ⟨H,G,W1,W2,W3,hz,c1,c2,HF,a1,a2,a3,a4,a5,a6,a7,a8,a9,b1,b2,b3,b4,b5,b6⟩:=q
 clear ho hV hx h1 h1x
 go_enter func333,ntmps333
 go_wp2_with (first
  | (at_builtin;refine yH _ rfl _ _ _ _ rfl _ _ rfl rfl _ _ (hz _) ?_)
  | (at_builtin;refine rG _ rfl _ _ 47 47 rfl _ _ rfl rfl (c1 _ _) ?_))
 go_region_law (refine tH rfl _ _ 47 47 rfl _ _ (by simp [kH,lI]) (by simp [kH,lI]) (c2 _ _ _) ?_)
 all_goals go_wp2
 all_goals go_ret
 all_goals exact ⟨_,_,rfl,HF.out⟩
theorem zMl:zCl prog 333 207 4:=by
 intro base c n V A xs x w hb ho hV hx h1x hs
 have hr:dC w (yA ⟨V,0,none⟩) x:=dC.of_blk hV
 have hnc:=fP ho
 have hm0:(0:Int)<=(n:Int):=by omega
 have HO:=fA ho
 have HX:=fA hx
 have HR:=fA hr
 clear ho hx hr
 go_enter func333,ntmps333
 go_wp2_with (at_builtin;refine yC rfl (.tmp 23) (.tmp 24) rfl zCy base (.slice A n c) n xs (by rfl) HO.out (yA ⟨V,0,none⟩) 1 1 x (by rfl) (by rw [HX.out]) HR.out h1x (by unfold fC;omega) (by omega) hb (fun h=>by cases h) ?_;intro a1 c1 w1 hown hg hat)
 all_goals go_ret
 all_goals exact ⟨a1,c1,rfl,hown,tE hg,wF hat⟩
theorem zMk:zCk prog 333 207 4:=zBz zKo zKn zMl
theorem zKm:eZ prog 123 202 2:=by
 intro base g c n i V xs x w ho hV hne hx h1 h1x hi hr hs
 have q:=yZ zEy (tb:=4) (nK func209 (by kernel_rfl) (by kernel_rfl) (by kernel_rfl) (by kernel_rfl)) ho hV hne hx h1 h1x hi hr hs
 obtain ⟨W1,W2,hov,c1,c2,s1,s2,HF,a1,a2,a3,a4,a5,a6,a7,a8,a9,b1,b2,b3⟩:=q
 clear ho hV hx h1 h1x hr hne
 go_enter func123,ntmps123
 go_wp2_with (simp only [hov])
 go_region_law (refine tH rfl _ _ 115 115 rfl _ _ (by simp [kH,lI]) (by simp [kH,lI]) (c1 _ _ _) ?_)
 all_goals go_wp2_with (at_builtin;refine rG _ rfl _ _ 115 115 rfl _ _ rfl rfl (c2 _ _) ?_)
 all_goals go_ret
 all_goals exact ⟨rfl,HF.out⟩
theorem zKl:cZ prog 123 202 2:=by
 intro base g c n i V xs x w ho hV hx h1 h1x hi hr hs
 have q:=qZ zEy underlying3 (by omega) ho hV hx h1 h1x hi hr hs
 obtain ⟨H,G,W1,W2,W3,hz,c1,c2,HF,a1,a2,a3,a4,a5,a6,a7,a8,a9,b1,b2,b3,b4,b5,b6⟩:=q
 clear ho hV hx h1 h1x
 go_enter func123,ntmps123
 go_wp2_with (first
  | (at_builtin;refine yH _ rfl _ _ _ _ rfl _ _ rfl rfl _ _ (hz _) ?_)
  | (at_builtin;refine rG _ rfl _ _ 115 115 rfl _ _ rfl rfl (c1 _ _) ?_))
 go_region_law (refine tH rfl _ _ 115 115 rfl _ _ (by simp [kH,lI]) (by simp [kH,lI]) (c2 _ _ _) ?_)
 all_goals go_wp2
 all_goals go_ret
 all_goals exact ⟨_,_,rfl,HF.out⟩
theorem zMj:zCl prog 123 202 2:=by
 intro base c n V A xs x w hb ho hV hx h1x hs
 have hr:dC w (yA ⟨V,0,none⟩) x:=dC.of_blk hV
 have hnc:=fP ho
 have hm0:(0:Int)<=(n:Int):=by omega
 have HO:=fA ho
 have HX:=fA hx
 have HR:=fA hr
 clear ho hx hr
 go_enter func123,ntmps123
 go_wp2_with (at_builtin;refine yC rfl (.tmp 23) (.tmp 24) rfl zEy base (.slice A n c) n xs (by rfl) HO.out (yA ⟨V,0,none⟩) 1 1 x (by rfl) (by rw [HX.out]) HR.out h1x (by unfold fC;omega) (by omega) hb (fun h=>by cases h) ?_;intro a1 c1 w1 hown hg hat)
 all_goals go_ret
 all_goals exact ⟨a1,c1,rfl,hown,tE hg,wF hat⟩
theorem zGc:zCk prog 123 202 2:=zBz zKm zKl zMj
theorem zKq:eZ prog 345 124 5:=by
 intro base g c n i V xs x w ho hV hne hx h1 h1x hi hr hs
 have q:=yZ oX (tb:=4) (nK func369 (by kernel_rfl) (by kernel_rfl) (by kernel_rfl) (by kernel_rfl)) ho hV hne hx h1 h1x hi hr hs
 obtain ⟨W1,W2,hov,c1,c2,s1,s2,HF,a1,a2,a3,a4,a5,a6,a7,a8,a9,b1,b2,b3⟩:=q
 clear ho hV hx h1 h1x hr hne
 go_enter func345,ntmps345
 go_wp2_with (simp only [hov])
 go_region_law (refine tH rfl _ _ 119 119 rfl _ _ (by simp [kH,lI]) (by simp [kH,lI]) (c1 _ _ _) ?_)
 all_goals go_wp2_with (at_builtin;refine rG _ rfl _ _ 119 119 rfl _ _ rfl rfl (c2 _ _) ?_)
 all_goals go_ret
 all_goals exact ⟨rfl,HF.out⟩
theorem zKp:cZ prog 345 124 5:=by
 intro base g c n i V xs x w ho hV hx h1 h1x hi hr hs
 have q:=qZ oX underlying3 (by omega) ho hV hx h1 h1x hi hr hs
 obtain ⟨H,G,W1,W2,W3,hz,c1,c2,HF,a1,a2,a3,a4,a5,a6,a7,a8,a9,b1,b2,b3,b4,b5,b6⟩:=q
 clear ho hV hx h1 h1x
 go_enter func345,ntmps345
 go_wp2_with (first
  | (at_builtin;refine yH _ rfl _ _ _ _ rfl _ _ rfl rfl _ _ (hz _) ?_)
  | (at_builtin;refine rG _ rfl _ _ 119 119 rfl _ _ rfl rfl (c1 _ _) ?_))
 go_region_law (refine tH rfl _ _ 119 119 rfl _ _ (by simp [kH,lI]) (by simp [kH,lI]) (c2 _ _ _) ?_)
 all_goals go_wp2
 all_goals go_ret
 all_goals exact ⟨_,_,rfl,HF.out⟩
theorem zMn:zCl prog 345 124 5:=by
 intro base c n V A xs x w hb ho hV hx h1x hs
 have hr:dC w (yA ⟨V,0,none⟩) x:=dC.of_blk hV
 have hnc:=fP ho
 have hm0:(0:Int)<=(n:Int):=by omega
 have HO:=fA ho
 have HX:=fA hx
 have HR:=fA hr
 clear ho hx hr
 go_enter func345,ntmps345
 go_wp2_with (at_builtin;refine yC rfl (.tmp 23) (.tmp 24) rfl oX base (.slice A n c) n xs (by rfl) HO.out (yA ⟨V,0,none⟩) 1 1 x (by rfl) (by rw [HX.out]) HR.out h1x (by unfold fC;omega) (by omega) hb (fun h=>by cases h) ?_;intro a1 c1 w1 hown hg hat)
 all_goals go_ret
 all_goals exact ⟨a1,c1,rfl,hown,tE hg,wF hat⟩
theorem zMm:zCk prog 345 124 5:=zBz zKq zKp zMn
theorem zMi:eZ prog 339 3 1:=by
 intro base g c n i V xs x w ho hV hne hx h1 h1x hi hr hs
 have q:=yZ tN (tb:=4) (nK func366 (by kernel_rfl) (by kernel_rfl) (by kernel_rfl) (by kernel_rfl)) ho hV hne hx h1 h1x hi hr hs
 simp only [vF] at q ⊢
 obtain ⟨W1,W2,hov,c1,c2,s1,s2,HF,a1,a2,a3,a4,a5,a6,a7,a8,a9,b1,b2,b3⟩:=q
 clear ho hV hx h1 h1x hr hne
 go_enter func339,ntmps339
 go_wp2_with (simp only [hov])
 go_region_law (refine tH rfl _ _ 63 63 rfl _ _ (by simp [kH,lI]) (by simp [kH,lI]) (c1 _ _ _) ?_)
 all_goals go_wp2_with (at_builtin;refine rG _ rfl _ _ 63 63 rfl _ _ rfl rfl (c2 _ _) ?_)
 all_goals go_ret
 all_goals exact ⟨rfl,HF.out⟩
theorem zMh:cZ prog 339 3 1:=by
 intro base g c n i V xs x w ho hV hx h1 h1x hi hr hs
 have q:=qZ tN underlying3 (by omega) ho hV hx h1 h1x hi hr hs
 simp only [vF] at q ⊢
 obtain ⟨H,G,W1,W2,W3,hz,c1,c2,HF,a1,a2,a3,a4,a5,a6,a7,a8,a9,b1,b2,b3,b4,b5,b6⟩:=q
 clear ho hV hx h1 h1x
 go_enter func339,ntmps339
 go_wp2_with (first
  | (at_builtin;refine yH _ rfl _ _ _ _ rfl _ _ rfl rfl _ _ (hz _) ?_)
  | (at_builtin;refine rG _ rfl _ _ 63 63 rfl _ _ rfl rfl (c1 _ _) ?_))
 go_region_law (refine tH rfl _ _ 63 63 rfl _ _ (by simp [kH,lI]) (by simp [kH,lI]) (c2 _ _ _) ?_)
 all_goals go_wp2
 all_goals go_ret
 all_goals exact ⟨_,_,rfl,HF.out⟩
theorem zOp:zCl prog 339 3 1:=by
 intro base c n V A xs x w hb ho hV hx h1x hs
 have hr:dC w (yA ⟨V,0,none⟩) x:=dC.of_blk hV
 have hnc:=fP ho
 have hm0:(0:Int)<=(n:Int):=by omega
 have HO:=fA ho
 have HX:=fA hx
 have HR:=fA hr
 clear ho hx hr
 go_enter func339,ntmps339
 go_wp2_with (at_builtin;refine yC rfl (.tmp 23) (.tmp 24) rfl tN base (.slice A n c) n xs (by rfl) HO.out (yA ⟨V,0,none⟩) 1 1 x (by rfl) (by rw [HX.out]) HR.out h1x (by unfold fC;omega) (by omega) hb (fun h=>by cases h) ?_;intro a1 c1 w1 hown hg hat)
 all_goals go_ret
 all_goals exact ⟨a1,c1,rfl,hown,tE hg,wF hat⟩
theorem zOo:zCk prog 339 3 1:=zBz zMi zMh zOp
def addN (xs:List Nd) (x:Nd):List Nd × Int:=if (fZ x && decide (x.2.2.2=0))=false then ([],1) else if kL (nfn (tD xs) x.1) (tD xs).length then ([],6) else ((tD xs).take (dG (nfn (tD xs) x.1) 0 (tD xs).length) ++ [x] ++ (tD xs).drop (dG (nfn (tD xs) x.1) 0 (tD xs).length),0)
def zKV (r:List Nd × Int) (w:uA) (en:Ending) (w':uA):Prop:=∃ A c,en=.returned (.tuple #[.slice A r.1.length c,r.2])/\w'.ownsRow w.heap.size 207 4 (.slice A r.1.length c) r.1.length (flat qH r.1)/\Below w.heap.size w w'
theorem zNx (A:Option mB) (c:Nat) (xs:List Nd) (x1 x2 x3 x4:Int) (w:uA) (h:yB qH w A c xs) (hs:xs.length<1000000):iA prog 266 #[.slice A xs.length c,.agg #[x1,x2,x3,x4]] w (zKV (addN xs (x1,x2,x3,x4)) w):=by
 have hfl:=sV xs
 have HFA:Hid (∀ W,Below w.heap.size w W -> iA prog 313 #[.slice A xs.length c] W (mD 207 4 (tD xs).length (flat qH (tD xs)) W)):=fun W hb=>zDs A c xs W (h.below hb)
 have HPL:Hid (∀ W A c,yB qH W A c (tD xs) -> iA prog 314 #[.slice A (tD xs).length c,x1] W fun e w'=>e=.returned (.tuple #[.int .i64 (iT (nfn (tD xs) x1) (tD xs).length),.bool (kL (nfn (tD xs) x1) (tD xs).length)])/\Below W.heap.size W w'):=fun W A c h=>zCG A c (tD xs) x1 W h
 have HMA:Hid (∀ W,iA prog 213 #[.agg #[x1,x2,x3,x4]] W fun e w'=>e=.returned (.bool (fZ (x1,x2,x3,x4)))/\Below W.heap.size W w'):=fun W=>zIr x1 x2 x3 x4 W
 unfold addN
 simp only
 generalize tD xs=ys at *
 have hle:=(zEm (nfn ys x1) 0 ys.length (Nat.zero_le _)).2
 have hal:=wA w (.cells #[x1,x2,x3,x4] 207)
 have gX:=rB w (.cells #[x1,x2,x3,x4] 207)
 clear h
 have HI:Hid (iT (nfn ys x1) ys.length=((dG (nfn ys x1) 0 ys.length:Nat):Int)):=rfl
 rw [HI.out] at HPL
 generalize dG (nfn ys x1) 0 ys.length=m at *
 generalize kL (nfn ys x1) ys.length=fd at *
 generalize fZ (x1,x2,x3,x4)=ok at *
 have HIN:Hid (∀ (W:uA) (A:Option mB) (c:Nat),W.heap.size >= w.heap.size -> W.ownsRow w.heap.size 207 4 (.slice A ys.length c) ys.length (flat qH ys) -> iA prog 333 #[.slice A ys.length c,(m:Int),.slice (yA ⟨W.heap.size,0,none⟩) 1 1] (W.alloc (.cells #[x1,x2,x3,x4] 207)) (zDl 207 4 (ys.length+1) ((flat qH ys).take (m * 4) ++ qH (x1,x2,x3,x4) ++ (flat qH ys).drop (m * 4)) w.heap.size A (W.alloc (.cells #[x1,x2,x3,x4] 207)))):=fun W A c hW ho=>by
  have ha:=wA W (.cells #[x1,x2,x3,x4] 207)
  have g:=rB W (.cells #[x1,x2,x3,x4] 207)
  have o2:=jB ho ha
  have n2:W.heap.size ∉ zB A:=fun hc=>by have:=(qC ho _ hc).2;omega
  have l2:=pA hW ha.size
  generalize W.alloc (.cells #[x1,x2,x3,x4] 207)=W2 at *
  exact zMk w.heap.size c ys.length m W.heap.size A (flat qH ys) (qH (x1,x2,x3,x4)) W2 l2 o2 g n2 rfl (jF zCD ys) (zCD _) hle (by omega)
 cases ok with
 | false =>
  rw [if_pos (by simp)]
  go_enter func266,ntmps266
  go_wp2_with (first
   | (go_at_call 313;refine (HFA.out _ hal).mono ?_;rintro e w1 ⟨A1,c1,rfl,own1,hb1⟩;have hw1:=hal.trans (hb1.mono hal.size);have f1:=yB.of_own (enc:=qH) own1 (by omega);have g1:=kA hb1 gX;have own1:=oC own1 hal.size;obtain ⟨y0,y1,y2,y3,_,_,_,_,ylt⟩:=nH g1)
   | (go_at_call 314;refine (HPL.out _ _ _ f1).mono ?_;rintro e w2 ⟨rfl,hb2⟩;have hw2:=hw1.trans (hb2.mono hw1.size);have g2:=kA hb2 g1;have own2:=jB own1 hb2;obtain ⟨d0,d1,d2,d3,_,_,_,_,dlt⟩:=nH g2)
   | (go_at_call 213;refine (HMA.out _).mono ?_;rintro e w3 ⟨rfl,hb3⟩;have hw3:=hw2.trans (hb3.mono hw2.size);have g3:=kA hb3 g2;have own3:=jB own2 hb3;obtain ⟨e0,e1,e2,e3,_,_,_,_,elt⟩:=nH g3)
   | (go_at_call 333;refine (HIN.out w3 _ _ hw3.size own3).mono ?_;rintro e w4 ⟨A4,c4,rfl,own4,ch4,_⟩))
  go_ret2
  exact ⟨none,0,rfl,nB _ _ _ _,hw3⟩
 | true =>
 by_cases h4:x4=0
 rotate_left 1
 ·rw [if_pos (by simp [h4])]
  go_enter func266,ntmps266
  go_wp2_with (first
   | (go_at_call 313;refine (HFA.out _ hal).mono ?_;rintro e w1 ⟨A1,c1,rfl,own1,hb1⟩;have hw1:=hal.trans (hb1.mono hal.size);have f1:=yB.of_own (enc:=qH) own1 (by omega);have g1:=kA hb1 gX;have own1:=oC own1 hal.size;obtain ⟨y0,y1,y2,y3,_,_,_,_,ylt⟩:=nH g1)
   | (go_at_call 314;refine (HPL.out _ _ _ f1).mono ?_;rintro e w2 ⟨rfl,hb2⟩;have hw2:=hw1.trans (hb2.mono hw1.size);have g2:=kA hb2 g1;have own2:=jB own1 hb2;obtain ⟨d0,d1,d2,d3,_,_,_,_,dlt⟩:=nH g2)
   | (go_at_call 213;refine (HMA.out _).mono ?_;rintro e w3 ⟨rfl,hb3⟩;have hw3:=hw2.trans (hb3.mono hw2.size);have g3:=kA hb3 g2;have own3:=jB own2 hb3;obtain ⟨e0,e1,e2,e3,_,_,_,_,elt⟩:=nH g3)
   | (go_at_call 333;refine (HIN.out w3 _ _ hw3.size own3).mono ?_;rintro e w4 ⟨A4,c4,rfl,own4,ch4,_⟩))
  go_ret2
  exact ⟨none,0,rfl,nB _ _ _ _,hw3⟩
 subst h4
 rw [if_neg (by simp)]
 cases fd with
 | true =>
  rw [if_pos rfl]
  go_enter func266,ntmps266
  go_wp2_with (first
   | (go_at_call 313;refine (HFA.out _ hal).mono ?_;rintro e w1 ⟨A1,c1,rfl,own1,hb1⟩;have hw1:=hal.trans (hb1.mono hal.size);have f1:=yB.of_own (enc:=qH) own1 (by omega);have g1:=kA hb1 gX;have own1:=oC own1 hal.size;obtain ⟨y0,y1,y2,y3,_,_,_,_,ylt⟩:=nH g1)
   | (go_at_call 314;refine (HPL.out _ _ _ f1).mono ?_;rintro e w2 ⟨rfl,hb2⟩;have hw2:=hw1.trans (hb2.mono hw1.size);have g2:=kA hb2 g1;have own2:=jB own1 hb2;obtain ⟨d0,d1,d2,d3,_,_,_,_,dlt⟩:=nH g2)
   | (go_at_call 213;refine (HMA.out _).mono ?_;rintro e w3 ⟨rfl,hb3⟩;have hw3:=hw2.trans (hb3.mono hw2.size);have g3:=kA hb3 g2;have own3:=jB own2 hb3;obtain ⟨e0,e1,e2,e3,_,_,_,_,elt⟩:=nH g3)
   | (go_at_call 333;refine (HIN.out w3 _ _ hw3.size own3).mono ?_;rintro e w4 ⟨A4,c4,rfl,own4,ch4,_⟩))
  go_ret2
  exact ⟨none,0,rfl,nB _ _ _ _,hw3⟩
 | false =>
  rw [if_neg (by decide)]
  go_enter func266,ntmps266
  go_wp2_with (first
   | (go_at_call 313;refine (HFA.out _ hal).mono ?_;rintro e w1 ⟨A1,c1,rfl,own1,hb1⟩;have hw1:=hal.trans (hb1.mono hal.size);have f1:=yB.of_own (enc:=qH) own1 (by omega);have g1:=kA hb1 gX;have own1:=oC own1 hal.size;obtain ⟨y0,y1,y2,y3,_,_,_,_,ylt⟩:=nH g1)
   | (go_at_call 314;refine (HPL.out _ _ _ f1).mono ?_;rintro e w2 ⟨rfl,hb2⟩;have hw2:=hw1.trans (hb2.mono hw1.size);have g2:=kA hb2 g1;have own2:=jB own1 hb2;obtain ⟨d0,d1,d2,d3,_,_,_,_,dlt⟩:=nH g2)
   | (go_at_call 213;refine (HMA.out _).mono ?_;rintro e w3 ⟨rfl,hb3⟩;have hw3:=hw2.trans (hb3.mono hw2.size);have g3:=kA hb3 g2;have own3:=jB own2 hb3;obtain ⟨e0,e1,e2,e3,_,_,_,_,elt⟩:=nH g3)
   | (go_at_call 333;refine (HIN.out w3 _ _ hw3.size own3).mono ?_;rintro e w4 ⟨A4,c4,rfl,own4,ch4,_⟩))
  go_ret2
  have hlow:∀ b ∈ zB A1,w.heap.size<=b:=fun b hb=>(qC own3 b hb).1
  have ha:=wA w3 (.cells #[x1,x2,x3,.int .i64 0] 207)
  have hw3a:=hw3.trans (ha.mono hw3.size)
  have hw4:Below w.heap.size w w4:=hw3a.trans (ch4.to_below hlow hw3a.size)
  rw [mL yO,wM yO] at own4
  have el:(ys.take m ++ [(x1,x2,x3,0)] ++ ys.drop m).length=ys.length+1:=by simp;omega
  have ef:flat qH (ys.take m ++ [(x1,x2,x3,0)] ++ ys.drop m)=flat qH (ys.take m) ++ qH (x1,x2,x3,0) ++ flat qH (ys.drop m):=by simp [flat]
  refine ⟨A4,c4,?_,?_,hw4⟩
  ·rw [el];rfl
  ·rw [el,ef];exact own4
end Go.Proofs.YtogbpifcmhafkaaGreat
