/-
 Part PN of the proof.
-/
import Derived.Test.YtogbpifcmhafkaaGreatPK
import Derived.Test.YtogbpifcmhafkaaGreatPJ
import Derived.Test.YtogbpifcmhafkaaGreatPL
open Bool renaming and_eq_true->kC,false_eq_true->uG
open Go renaming Addr->mB,Calls->iA,World->uA
open Go.Lib renaming hid->fA
open Go.RowKit renaming Hid->jC,wrap64->yK
open Go.RowKit.Below renaming refl->cC
open Go.World renaming ownsRow_nil->nB
open List renaming append_assoc->kE,getD_eq_getElem?_getD->pB,getElem?_append_left->iH,getElem?_append_right->fH,getElem?_drop->fI,getElem?_eq_getElem->rA,getElem?_eq_some_iff->xF,getElem?_take_of_lt->pM,getElem_set_self->eR,length_cons->qD,length_take->sB,zipWith_append->xU
open Nat renaming le_refl->mA,le_trans->pA,lt_trichotomy->iW,min_eq_left->wH,mul_one->vF,sub_self->sU,zero_le->vC
open Option renaming getD_some->yD,some->yA
namespace Go.Proofs.YtogbpifcmhafkaaGreat
open Go.RowKit Tryz
open Go.Lib(hid)
set_option linter.unusedVariables false
set_option linter.unusedSimpArgs false
set_option maxRecDepth 100000
set_option maxHeartbeats 16000000
theorem zCF (A:Option mB) (c:Nat) (xs:List Ch) (t:Int) (w:uA) (h:vM w A c xs):iA prog 74 #[.slice A xs.length c,t] w fun e w'=>e=.returned (.tuple #[.int .i64 (iT (cfn xs t) xs.length),.bool (kL (cfn xs t) xs.length)])/\Below w.heap.size w w':=by
 have HB:=fA (zQd A c xs t w h)
 clear h
 go_enter func74,ntmps74
 go_wp2_with (go_at_call 144;refine HB.out.mono ?_;rintro e w1 ⟨rfl,hb1⟩)
 go_ret2
 exact ⟨rfl,hb1⟩
theorem zEg.at_ {w:uA} {base:Nat} {A:Option mB} {c:Nat} {xs:List Ch} (h:lH w base A c xs) {m:Nat} (hm:m<xs.length):∃ b a cc,A=yA ⟨b,0,none⟩/\base<=b/\b<w.heap.size/\w.cell? ⟨b,m * 4,none⟩=yA (.int .i64 (xs[m]'hm).1)/\w.cell? ⟨b,m * 4+1,none⟩=yA (.int .i64 (xs[m]'hm).2.1)/\w.cell? ⟨b,m * 4+2,none⟩=yA (.int .u32 (xs[m]'hm).2.2.1)/\w.cell? ⟨b,m * 4+3,none⟩=yA (.slice a (xs[m]'hm).2.2.2.length cc)/\w.ownsRow base 3 1 (.slice a (xs[m]'hm).2.2.2.length cc) (xs[m]'hm).2.2.2.length (flat kG (xs[m]'hm).2.2.2)/\(xs[m]'hm).2.2.2.length<=1000000/\(∀ j,w.frozen? ⟨b,j,none⟩=false)/\b ∉ zB a:=by
 obtain ⟨ps,h⟩:=h
 have hcl:=vJ h.len
 have hmp:m<ps.length:=by rw [h.len];exact hm
 obtain ⟨g,cap',hv,_⟩:=h.row.form (by omega)
 injection hv with hv
 subst hv
 have hgo:=qC h.row g (by simp [zB])
 have hi:m<(bF xs ps).length:=by omega
 have hg:=fS hm hmp hi
 have hr:=h.row
 have q:∀ j u,j<4 -> (zDJ ((bF xs ps)[m]'hi))[j]?=yA u -> w.cell? ⟨g,m * 4+j,none⟩=yA u:=fun j u hj hu=>mH hr (by rw [tK jU hi hj];exact hu)
 rw [hg] at q
 have hh:=h.hold m _ _ (rA hm) (rA hmp)
 refine ⟨g,(ps[m]'hmp).1,(ps[m]'hmp).2,rfl,hgo.1,hgo.2,q 0 _ (by decide) rfl,q 1 _ (by decide) rfl,q 2 _ (by decide) rfl,q 3 _ (by decide) rfl,hh.1,hh.2,fun j=>mG hr j,fun hc => ?_⟩
 exact h.main m _ (rA hmp) g hc (by simp [zB])
def zQZ (r:Ch × Bool) (w:uA) (en:Ending) (w':uA):Prop:=∃ a cc,en=.returned (.tuple #[.agg #[r.1.1,r.1.2.1,.int .u32 r.1.2.2.1,.slice a r.1.2.2.2.length cc],.bool r.2])/\w'.ownsRow w.heap.size 3 1 (.slice a r.1.2.2.2.length cc) r.1.2.2.2.length (flat kG r.1.2.2.2)/\r.1.2.2.2.length<=1000000/\Below w.heap.size w w'
theorem mS (A:Option mB) (c:Nat) (xs:List Ch) (t:Int) (w:uA) (h:vM w A c xs):iA prog 30 #[.slice A xs.length c,t] w (zQZ (rF xs t) w):=by
 have hmx:=h.max
 have hfl:=nS xs
 have HFA:jC (∀ W,Below w.heap.size w W -> iA prog 73 #[.slice A xs.length c] W (zFC (iD xs) W)):=fun W hb=>zBv A c xs W (h.below hb)
 have HPL:jC (∀ (W:uA) (A:Option mB) (c:Nat),vM W A c (iD xs) -> iA prog 74 #[.slice A (iD xs).length c,t] W fun e w'=>e=.returned (.tuple #[.int .i64 (iT (cfn (iD xs) t) (iD xs).length),.bool (kL (cfn (iD xs) t) (iD xs).length)])/\Below W.heap.size W w'):=fun W A c h=>zCF A c (iD xs) t W h
 unfold rF
 generalize iD xs=ys at *
 have hal:=wA w (.cells #[.int .i64 0,.int .i64 0,.int .u32 0,.slice none 0 0] 65)
 have gX:=rB w (.cells #[.int .i64 0,.int .i64 0,.int .u32 0,.slice none 0 0] 65)
 clear h
 cases hB:kL (cfn ys t) ys.length with
 | false =>
  rw [hB] at HPL
  simp only [uG,if_false]
  clear hB
  go_enter func30,ntmps30
  go_wp2_with (first
   | (go_at_call 73;refine (HFA.out _ hal).mono ?_;rintro e w1 ⟨A1,c1,rfl,own1,hb1⟩;have hw1:=hal.trans (hb1.mono hal.size);have f1:=own1.in_ (by omega);have g1:=kA hb1 gX)
   | (go_at_call 74;refine (HPL.out _ _ _ f1).mono ?_;rintro e w2 ⟨rfl,hb2⟩;have hw2:=hw1.trans (hb2.mono hw1.size);have g2:=kA hb2 g1;obtain ⟨d0,d1,d2,d3,df0,df1,df2,df3,dlt⟩:=nH g2))
  obtain ⟨z0,z1,z2,z3,_,_,_,_,zlt⟩:=nH (pT g2 (.int .i64 0) (.int .i64 0) (.int .u32 0) (.slice none 0 0))
  refine bodyPost_ret (v:=.tuple #[.agg #[.int .i64 0,.int .i64 0,.int .u32 0,.slice none 0 0],.bool false]) (by simp [results,results30,go_sem,z0,z1,z2,z3];try rfl) rfl ?_
  exact ⟨none,0,rfl,nB _ _ _ _,by simp [zPP],mN hw2 (mA _) _ _ _ _⟩
 | true =>
  rw [hB] at HPL
  simp only [if_true]
  have hB2:dG (cfn ys t) 0 ys.length<ys.length:=by unfold kL at hB;simp at hB;exact hB.1
  have hi:iT (cfn ys t) ys.length=((dG (cfn ys t) 0 ys.length:Nat):Int):=rfl
  rw [hi] at HPL
  clear hB hi
  generalize dG (cfn ys t) 0 ys.length=m at *
  have hm0:(0:Int)<=(m:Int):=by omega
  have hm1:(m:Int)<(ys.length:Int):=by omega
  rw [pB,rA hB2,yD]
  obtain ⟨x,hx⟩:∃ x,ys[m]'hB2=x:=⟨_,rfl⟩
  rw [hx]
  obtain ⟨x1,x2,x3,x4⟩:=x
  have HX:=fA hx
  clear hx
  go_enter func30,ntmps30
  go_upto_region 5 with (first
   | (go_at_call 73;refine (HFA.out _ hal).mono ?_;rintro e w1 ⟨A1,c1,rfl,own1,hb1⟩;have hw1:=hal.trans (hb1.mono hal.size);have f1:=own1.in_ (by omega);have g1:=kA hb1 gX)
   | (go_at_call 74;refine (HPL.out _ _ _ f1).mono ?_;rintro e w2 ⟨rfl,hb2⟩;have hw2:=hw1.trans (hb2.mono hw1.size);have g2:=kA hb2 g1;have own2:=own1.below hb2;obtain ⟨d0,d1,d2,d3,df0,df1,df2,df3,dlt⟩:=nH g2))
  obtain ⟨b,a,cc,rfl,hbb,blt,c0,c1',c2,c3,HO,HM,_,_⟩:=zEg.at_ own2 hB2
  rw [HX.out] at c0 c1' c2 c3 HO HM
  simp only at c0 c1' c2 c3
  have HO2:=fA HO
  clear HO own1 own2 f1
  go_wp2
  obtain ⟨z0,z1,z2,z3,_,_,_,_,zlt⟩:=nH (pT g2 (.int .i64 x1) (.int .i64 x2) (.int .u32 x3) (.slice a x4.length cc))
  refine bodyPost_ret (v:=.tuple #[.agg #[x1,x2,.int .u32 x3,.slice a x4.length cc],.bool true]) (by simp [results,results30,go_sem,z0,z1,z2,z3];try rfl) rfl ?_
  have hne:∀ x ∈ zB a,x≠w.heap.size:=fun x hx=>by have:=(qC HO2.out x hx).1;simp at this;omega
  exact ⟨a,cc,rfl,rE (rE (rE (rE (oC HO2.out hal.size) hne _ _) hne _ _) hne _ _) hne _ _,HM,mN hw2 (mA _) _ _ _ _⟩
theorem zAk:∀ (l:List Int) (a b:Int),mJ l a b=true -> l.length=0\/(l.length:Int)<=b - a+1
 | [],_,_,_=>.inl rfl
 | n :: l, a, b, h => by
  simp only [mJ,kC,decide_eq_true_eq] at h
  rcases zAk l (n+1) b h.2 with q | q
  ·right;simp only [qD,q];omega
  ·right;simp only [qD];omega
theorem zHY (xs:List Ch):∀ y ∈ iD xs,y.2.2.2.length<=16:=by
 unfold iD
 split
 ·rename_i h
  intro y hy
  simp only [pG,kC] at h
  have:=List.all_eq_true.1 h.1 y hy
  simp only [mW,kC] at this
  have:=zAk _ _ _ this.2
  omega
 ·intro y hy;cases hy
def tJ (f : Ch -> Ch × Int) (xs : List Ch) (t : Int) : List Ch × Int :=
 if kL (cfn (iD xs) t) (iD xs).length then
  if (f ((iD xs).getD (dG (cfn (iD xs) t) 0 (iD xs).length) zPP)).2≠0 then ([],(f ((iD xs).getD (dG (cfn (iD xs) t) 0 (iD xs).length) zPP)).2)
  else ((iD xs).set (dG (cfn (iD xs) t) 0 (iD xs).length) (f ((iD xs).getD (dG (cfn (iD xs) t) 0 (iD xs).length) zPP)).1,0)
 else ([],5)
def DoC (g:Nat) (lb:Array Value) (f:Ch -> Ch × Int) (w:uA):Prop:=∀ (W:uA) (base b c:Nat) (ys:List Ch) (m:Nat) (hm:m<ys.length),Below w.heap.size w W -> w.heap.size<=base -> base<=W.heap.size -> ys.length<=1000000 -> (∀ y ∈ ys,y.2.2.2.length<=16) -> lH W base (yA ⟨b,0,none⟩) c ys ->
 iA prog g (#[.pointer (yA ⟨b,m * 4,none⟩)] ++ lb) W fun e w'=>e=.returned (.int .i64 (f (ys[m]'hm)).2)/\Below base W w'/\((f (ys[m]'hm)).2=0 -> lH w' base (yA ⟨b,0,none⟩) c (ys.set m (f (ys[m]'hm)).1))
theorem zCv (A : Option mB) (c : Nat) (xs : List Ch) (t : Int) (g : Nat) (lb : Array Value) (eg : ∀ args w, (callFunc g args).run prog w = .ok (.enter g args) w) (f : Ch -> Ch × Int) (w : uA) (h : vM w A c xs) (hd : DoC g lb f w) : iA prog 335 #[.slice A xs.length c, .int .i64 t, .func (.func g) #[] lb] w (wT (tJ f xs t) w) := by
 have hmx:=h.max
 have hfl:=nS xs
 have hfh:=zHY xs
 have HFA:jC (iA prog 73 #[.slice A xs.length c] w (zFC (iD xs) w)):=fA (zBv A c xs w h)
 have HPL:jC (∀ (W:uA) (A:Option mB) (c:Nat),vM W A c (iD xs) -> iA prog 74 #[.slice A (iD xs).length c,t] W fun e w'=>e=.returned (.tuple #[.int .i64 (iT (cfn (iD xs) t) (iD xs).length),.bool (kL (cfn (iD xs) t) (iD xs).length)])/\Below W.heap.size W w'):=fun W A c h=>zCF A c (iD xs) t W h
 unfold tJ
 generalize iD xs=ys at *
 have HD:=fA hd
 clear h hd
 cases hB:kL (cfn ys t) ys.length with
 | false =>
  rw [hB] at HPL
  simp only [uG,if_false]
  clear hB
  go_enter func335,ntmps335
  go_wp2_with (first
   | (go_at_call 73;refine HFA.out.mono ?_;rintro e w1 ⟨A1,c1,rfl,own1,hb1⟩;have f1:=own1.in_ (by omega))
   | (go_at_call 74;refine (HPL.out _ _ _ f1).mono ?_;rintro e w2 ⟨rfl,hb2⟩;have hw2:=hb1.trans (hb2.mono hb1.size)))
  go_ret2
  exact ⟨none,0,rfl,lH.nil _ _,hw2⟩
 | true =>
  rw [hB] at HPL
  simp only [if_true]
  have hB2:dG (cfn ys t) 0 ys.length<ys.length:=by unfold kL at hB;simp at hB;exact hB.1
  have hi:iT (cfn ys t) ys.length=((dG (cfn ys t) 0 ys.length:Nat):Int):=rfl
  rw [hi] at HPL
  clear hB hi
  generalize dG (cfn ys t) 0 ys.length=m at *
  have hm0:(0:Int)<=(m:Int):=by omega
  have hm1:(m:Int)<(ys.length:Int):=by omega
  rw [pB,rA hB2,yD]
  have HD2:jC (∀ (W:uA) (b c:Nat),Below w.heap.size w W -> lH W w.heap.size (yA ⟨b,0,none⟩) c ys -> iA prog g (#[.pointer (yA ⟨b,m * 4,none⟩)] ++ lb) W fun e w'=>e=.returned (.int .i64 (f (ys[m]'hB2)).2)/\Below w.heap.size W w'/\((f (ys[m]'hB2)).2=0 -> lH w' w.heap.size (yA ⟨b,0,none⟩) c (ys.set m (f (ys[m]'hB2)).1))):=fA fun W b c hb ho=>HD.out W w.heap.size b c ys m hB2 hb (mA _) hb.size (by omega) hfh ho
  generalize f (ys[m]'hB2)=r at *
  obtain ⟨r1,r2⟩:=r
  simp only at HD2 ⊢
  have HA:jC (∀ (W:uA) A c,lH W w.heap.size A c ys -> ∃ b,A=yA ⟨b,0,none⟩):=fA fun W A c ho=>by obtain ⟨b,_,_,h,_⟩:=zEg.at_ ho hB2;exact ⟨b,h⟩
  clear HD
  by_cases hr:r2=0
  ·subst hr
   simp only [ne_eq,not_true,if_false]
   go_enter func335,ntmps335
   go_wp2_with (first
    | (go_at_call 73;refine HFA.out.mono ?_;rintro e w1 ⟨A1,c1,rfl,own1,hb1⟩;obtain ⟨b,rfl⟩:=HA.out _ _ _ own1;have f1:=own1.in_ (by omega))
    | (go_at_call 74;refine (HPL.out _ _ _ f1).mono ?_;rintro e w2 ⟨rfl,hb2⟩;have hw2:=hb1.trans (hb2.mono hb1.size);have own2:=own1.below hb2)
    | (go_at_fn g;refine (HD2.out _ _ _ hw2 own2).mono ?_;rintro e w3 ⟨rfl,hb3,own3⟩;have hw3:=hw2.trans hb3))
   go_ret2
   exact ⟨_,_,by simp,own3 trivial,hw3⟩
  ·simp only [ne_eq,hr,not_false_eq_true,if_true]
   go_enter func335,ntmps335
   go_wp2_with (first
    | (go_at_call 73;refine HFA.out.mono ?_;rintro e w1 ⟨A1,c1,rfl,own1,hb1⟩;obtain ⟨b,rfl⟩:=HA.out _ _ _ own1;have f1:=own1.in_ (by omega))
    | (go_at_call 74;refine (HPL.out _ _ _ f1).mono ?_;rintro e w2 ⟨rfl,hb2⟩;have hw2:=hb1.trans (hb2.mono hb1.size);have own2:=own1.below hb2)
    | (go_at_fn g;refine (HD2.out _ _ _ hw2 own2).mono ?_;rintro e w3 ⟨rfl,hb3,_⟩;have hw3:=hw2.trans hb3))
   go_ret2
   exact ⟨none,0,rfl,lH.nil _ _,hw3⟩
theorem zCu:∀ {xs:List Ch} {ps:List (Option mB × Nat)} (m:Nat) (y:Ch) (a:Option mB × Nat),(bF xs ps).set m (zAY y a)=bF (xs.set m y) (ps.set m a)
 | [],ps,m,y,a=>by simp [bF]
 | x :: xs,[],m,y,a=>by simp [bF]
 | x :: xs,p :: ps,0,y,a=>by simp [bF]
 | x :: xs, p :: ps, m + 1, y, a => by
  have:=zCu (xs:=xs) (ps:=ps) m y a
  unfold bF at this ⊢
  simp only [List.zipWith_cons_cons,List.set_cons_succ,this]
theorem wQ {α:Type} {xs:List α} {m:Nat} {y:α} {i:Nat} {x:α} (h:(xs.set m y)[i]?=yA x):(i=m/\x=y)\/(i≠m/\xs[i]?=yA x):=by
 rw [List.getElem?_set] at h
 by_cases e:m=i
 ·subst e
  rw [if_pos rfl] at h
  split at h
  ·injection h with h;exact .inl ⟨rfl,h.symm⟩
  ·cases h
 ·rw [if_neg e] at h;exact .inr ⟨fun q=>e q.symm,h⟩
theorem lH.num {w:uA} {base b c:Nat} {xs:List Ch} (h:lH w base (yA ⟨b,0,none⟩) c xs) {m:Nat} (hm:m<xs.length) (j:Nat) (hj:j<3) (v:Value) (y:Ch) (hy:∀ a,zDJ (zAY y a)=(zDJ (zAY (xs[m]'hm) a)).set j v) (hy4:y.2.2.2=(xs[m]'hm).2.2.2):lH (w.setCell ⟨b,m * 4+j,none⟩ v) base (yA ⟨b,0,none⟩) c (xs.set m y):=by
 obtain ⟨ps,h⟩:=h
 have hcl:=vJ h.len
 have hmp:m<ps.length:=by rw [h.len];exact hm
 have hi:m<(bF xs ps).length:=by omega
 have hg:=fS hm hmp hi
 have e:=zBi jU h.row (i:=m) (j:=j) (y:=zAY y (ps[m]'hmp)) (u:=v) hi (by omega) (by rw [hg];exact hy _)
 rw [zCu,List.set_getElem_self] at e
 refine ⟨ps,by simp [h.len],?_,?_,h.apart,h.main⟩
 ·simpa using e
 ·intro i x a hx ha
  have far:∀ z ∈ zB a.1,z≠b:=fun z hz hc=>h.main i a ha z hz (by subst hc;simp [zB])
  rcases wQ hx with ⟨rfl,rfl⟩ | ⟨_,hx'⟩
  ·have:=h.hold i _ a (rA hm) ha
   rw [hy4]
   exact ⟨rE this.1 far _ _,this.2⟩
  ·have:=h.hold i x a hx' ha
   exact ⟨rE this.1 far _ _,this.2⟩
theorem lH.upd {w : uA} {base b c : Nat} {xs : List Ch} (h : lH w base (yA ⟨b, 0, none⟩) c xs) (hbase : base <= w.heap.size) {m : Nat} (hm : m < xs.length) : base <= b /\ b < w.heap.size /\ ∃ a cc, w.cell? ⟨b, m * 4, none⟩ = yA (.int .i64 (xs[m]'hm).1) /\ w.cell? ⟨b, m * 4 + 1, none⟩ = yA (.int .i64 (xs[m]'hm).2.1) /\ w.cell? ⟨b, m * 4 + 2, none⟩ = yA (.int .u32 (xs[m]'hm).2.2.1) /\ w.cell? ⟨b, m * 4 + 3, none⟩ = yA (.slice a (xs[m]'hm).2.2.2.length cc) /\ w.ownsRow base 3 1 (.slice a (xs[m]'hm).2.2.2.length cc) (xs[m]'hm).2.2.2.length (flat kG (xs[m]'hm).2.2.2) /\ (xs[m]'hm).2.2.2.length <= 1000000 /\ (∀ j, w.frozen? ⟨b, j, none⟩ = false) /\ b ∉ zB a /\
  ∀ (w1:uA) (a':Option mB) (cc':Nat) (hs:List Int),fD (zB a) w w1 -> w1.ownsRow base 3 1 (.slice a' hs.length cc') hs.length (flat kG hs) -> (∀ k ∈ zB a',k ∈ zB a\/w.heap.size<=k) -> hs.length<=1000000 -> lH (w1.setCell ⟨b,m * 4+3,none⟩ (.slice a' hs.length cc')) base (yA ⟨b,0,none⟩) c (xs.set m ((xs[m]'hm).1,(xs[m]'hm).2.1,(xs[m]'hm).2.2.1,hs)):=by
 obtain ⟨b',a,cc,e0,hb1,hb2,c0,c1,c2,c3,ho,hmx,hf,hnb⟩:=zEg.at_ h hm
 injection e0 with e0
 injection e0 with e0
 subst e0
 refine ⟨hb1,hb2,a,cc,c0,c1,c2,c3,ho,hmx,hf,hnb,?_⟩
 intro w1 a' cc' hs hch ho1 hA hl
 obtain ⟨ps,h⟩:=h
 have hcl:=vJ h.len
 have hmp:m<ps.length:=by rw [h.len];exact hm
 have hi:m<(bF xs ps).length:=by omega
 have hg:=fS hm hmp hi
 have ha:(ps[m]'hmp)=(a,cc):=by
  have hr:=h.row
  have q:w.cell? ⟨b,m * 4+3,none⟩=yA (.slice (ps[m]'hmp).1 (xs[m]'hm).2.2.2.length (ps[m]'hmp).2):=mH hr (by rw [tK jU hi (by decide),hg];rfl)
  rw [c3] at q
  injection q with q
  injection q with q1 _ q2
  rw [q1,q2]
 have hpm:ps[m]?=yA (a,cc):=by rw [rA hmp,ha]
 have hr1:=xE h.row hch (fun x hx hc=>h.main m _ hpm x hc hx)
 have e:=zBi jU hr1 (i:=m) (j:=3) (y:=zAY ((xs[m]'hm).1,(xs[m]'hm).2.1,(xs[m]'hm).2.2.1,hs) (a',cc')) (u:=.slice a' hs.length cc') hi (by decide) (by rw [hg];rfl)
 rw [zCu] at e
 have hab:∀ k ∈ zB a',k≠b:=fun k hk hc=>by
  rcases hA k hk with q | q
  ·exact h.main m _ hpm k q (by subst hc;simp [zB])
  ·omega
 refine ⟨ps.set m (a',cc'),by simp [h.len],by simpa using e,?_,?_,?_⟩
 ·intro i x q hx hq
  rcases wQ hx with ⟨rfl,rfl⟩ | ⟨hne,hx'⟩
  ·rcases wQ hq with ⟨_,rfl⟩ | ⟨hne,_⟩
   ·exact ⟨rE ho1 hab _ _,hl⟩
   ·exact absurd rfl hne
  ·rcases wQ hq with ⟨e,_⟩ | ⟨_,hq'⟩
   ·exact absurd e hne
   ·have:=h.hold i x q hx' hq'
    refine ⟨rE (xE this.1 hch fun z hz hc=>h.apart i m q (a,cc) hne hq' hpm z hz hc) (fun z hz hc=>h.main i q hq' z hz (by subst hc;simp [zB])) _ _,this.2⟩
 ·intro i j p q hij hp hq
  rcases wQ hp with ⟨rfl,rfl⟩ | ⟨hne,hp'⟩
  ·rcases wQ hq with ⟨e,_⟩ | ⟨_,hq'⟩
   ·exact absurd e.symm hij
   ·intro k hk hk2
    rcases hA k hk with r | r
    ·exact h.apart i j (a,cc) q hij hpm hq' k r hk2
    ·have hjl:=(xF.1 hq').1
     have:=qC (h.hold j (xs[j]'(by rw [<- h.len];exact hjl)) q (rA _) hq').1 k hk2
     omega
  ·rcases wQ hq with ⟨rfl,rfl⟩ | ⟨_,hq'⟩
   ·intro k hk hk2
    rcases hA k hk2 with r | r
    ·exact h.apart i j p (a,cc) hij hp' hpm k hk r
    ·have hjl:=(xF.1 hp').1
     have:=qC (h.hold i (xs[i]'(by rw [<- h.len];exact hjl)) p (rA _) hp').1 k hk
     omega
   ·exact h.apart i j p q hij hp' hq'
 ·intro i q hq k hk hk2
  rcases wQ hq with ⟨_,rfl⟩ | ⟨_,hq'⟩
  ·exact hab k hk (by simpa [zB] using hk2)
  ·exact h.main i q hq' k hk hk2
theorem zEg.ins {w w5:uA} {base:Nat} {A A5:Option mB} {c c5:Nat} {xs:List Ch} {ps:List (Option mB × Nat)} (h:zEg w base A c xs ps) (hbase:base<=w.heap.size) (hch:fD (zB A) w w5) (hA:∀ b ∈ zB A5,b ∈ zB A\/w.heap.size<=b) {m:Nat} (hm:m<=xs.length) {y:Ch} (hy:y.2.2.2=[])
  (ho:w5.ownsRow base 65 4 (.slice A5 (xs.length+1) c5) (xs.length+1) ((flat zDJ (bF xs ps)).take (m * 4) ++ zDJ (zAY y (none,0)) ++ (flat zDJ (bF xs ps)).drop (m * 4))):lH w5 base A5 c5 (xs.take m ++ [y] ++ xs.drop m):=by
 have hl:(xs.take m ++ [y] ++ xs.drop m).length=xs.length+1:=by simp;omega
 have hpl:=h.len
 have q:∀ (i:Nat) (a:Option mB × Nat),(ps.take m ++ [(none,0)] ++ ps.drop m)[i]?=yA a -> (a=(none,0)/\i=m)\/(i<m/\ps[i]?=yA a)\/(m<i/\ps[i - 1]?=yA a):=fun i a hi=>by
  rcases iW i m with r | r | r
  ·rw [kE,iH (by simp;omega),pM r] at hi
   exact .inr (.inl ⟨r,hi⟩)
  ·subst r
   rw [iH (by simp;omega),fH (by simp;omega)] at hi
   rw [sB,wH (by omega),sU] at hi
   simp at hi
   exact .inl ⟨hi.symm,rfl⟩
  ·rw [fH (by simp;omega),fI] at hi
   have e:m+(i - (ps.take m ++ [((none:Option mB),0)]).length)=i - 1:=by simp;omega
   rw [e] at hi
   exact .inr (.inr ⟨r,hi⟩)
 have q2:∀ (i:Nat) (x:Ch),(xs.take m ++ [y] ++ xs.drop m)[i]?=yA x -> (x=y/\i=m)\/(i<m/\xs[i]?=yA x)\/(m<i/\xs[i - 1]?=yA x):=fun i a hi=>by
  rcases iW i m with r | r | r
  ·rw [kE,iH (by simp;omega),pM r] at hi
   exact .inr (.inl ⟨r,hi⟩)
  ·subst r
   rw [iH (by simp;omega),fH (by simp;omega)] at hi
   rw [sB,wH (by omega),sU] at hi
   simp at hi
   exact .inl ⟨hi.symm,rfl⟩
  ·rw [fH (by simp;omega),fI] at hi
   have e:m+(i - (xs.take m ++ [y]).length)=i - 1:=by simp;omega
   rw [e] at hi
   exact .inr (.inr ⟨r,hi⟩)
 have hold:∀ (i:Nat) (x:Ch) (a:Option mB × Nat),xs[i]?=yA x -> ps[i]?=yA a -> w5.ownsRow base 3 1 (.slice a.1 x.2.2.2.length a.2) x.2.2.2.length (flat kG x.2.2.2)/\x.2.2.2.length<=1000000:=fun i x a p r=>by
  have:=h.hold i x a p r
  exact ⟨xE this.1 hch fun z hz hc=>h.main i a r z hz hc,this.2⟩
 have hmain:∀ (i:Nat) (a:Option mB × Nat),ps[i]?=yA a -> ∀ k ∈ zB a.1,k ∉ zB A5:=fun i a p k hk hk2=>by
  rcases hA k hk2 with r | r
  ·exact h.main i a p k hk r
  ·have hil:=(xF.1 p).1
   have:=qC (h.hold i (xs[i]'(by omega)) a (rA _) p).1 k hk
   omega
 refine ⟨ps.take m ++ [(none,0)] ++ ps.drop m,by simp [hpl],?_,?_,?_,?_⟩
 ·have e:bF (xs.take m ++ [y] ++ xs.drop m) (ps.take m ++ [(none,0)] ++ ps.drop m)=(bF xs ps).take m ++ [zAY y (none,0)] ++ (bF xs ps).drop m:=by
   unfold bF
   rw [xU (by simp [hpl]),xU (by simp [hpl]),List.take_zipWith,List.drop_zipWith]
   rfl
  rw [hl,e,uD,uD,<- mL jU,<- wM jU]
  exact ho
 ·intro i x a hx ha
  rcases q2 i x hx with ⟨rfl,rfl⟩ | ⟨r,hx⟩ | ⟨r,hx⟩
  ·rcases q i a ha with ⟨rfl,_⟩ | ⟨r,ha⟩ | ⟨r,ha⟩
   ·rw [hy];exact ⟨nB _ _ _ _,by simp⟩
   ·omega
   ·omega
  ·rcases q i a ha with ⟨_,r2⟩ | ⟨r2,ha⟩ | ⟨r2,ha⟩
   ·omega
   ·exact hold i x a hx ha
   ·omega
  ·rcases q i a ha with ⟨_,r2⟩ | ⟨r2,ha⟩ | ⟨r2,ha⟩
   ·omega
   ·omega
   ·exact hold (i - 1) x a hx ha
 ·intro i j a b hij ha hb k hk hk2
  rcases q i a ha with ⟨rfl,_⟩ | ⟨r,ha⟩ | ⟨r,ha⟩
  ·cases hk
  ·rcases q j b hb with ⟨rfl,_⟩ | ⟨r2,hb⟩ | ⟨r2,hb⟩
   ·cases hk2
   ·exact h.apart i j a b hij ha hb k hk hk2
   ·exact h.apart i (j - 1) a b (by omega) ha hb k hk hk2
  ·rcases q j b hb with ⟨rfl,_⟩ | ⟨r2,hb⟩ | ⟨r2,hb⟩
   ·cases hk2
   ·exact h.apart (i - 1) j a b (by omega) ha hb k hk hk2
   ·exact h.apart (i - 1) (j - 1) a b (by omega) ha hb k hk hk2
 ·intro i a ha k hk hk2
  rcases q i a ha with ⟨rfl,_⟩ | ⟨r,ha⟩ | ⟨r,ha⟩
  ·cases hk
  ·exact hmain i a ha k hk hk2
  ·exact hmain (i - 1) a ha k hk hk2
def vQ (xs:List Ch) (id sum:Int):List Ch × Int :=
 if id<1\/1048576<id then ([],1) else if kL (cfn (iD xs) id) (iD xs).length then ([],6) else if 32<=(iD xs).length then ([],7)
 else ((iD xs).take (dG (cfn (iD xs) id) 0 (iD xs).length) ++ [(id,1,sum,[])] ++ (iD xs).drop (dG (cfn (iD xs) id) 0 (iD xs).length),0)
theorem zHR (A : Option mB) (c : Nat) (xs : List Ch) (id sum : Int) (w : uA) (h : vM w A c xs) : iA prog 272 #[.slice A xs.length c, id, .int .u32 sum] w (wT (vQ xs id sum) w) := by
 have hmx:=h.max
 have hfl:=nS xs
 have HFA:jC (iA prog 73 #[.slice A xs.length c] w (zFC (iD xs) w)):=fA (zBv A c xs w h)
 have HPL:jC (∀ (W:uA) (A:Option mB) (c:Nat),vM W A c (iD xs) -> iA prog 74 #[.slice A (iD xs).length c,id] W fun e w'=>e=.returned (.tuple #[.int .i64 (iT (cfn (iD xs) id) (iD xs).length),.bool (kL (cfn (iD xs) id) (iD xs).length)])/\Below W.heap.size W w'):=fun W A c h=>zCF A c (iD xs) id W h
 unfold vQ
 generalize iD xs=ys at *
 have hle:=(zEm (cfn ys id) 0 ys.length (vC _)).2
 clear h
 have HI:jC (iT (cfn ys id) ys.length=((dG (cfn ys id) 0 ys.length:Nat):Int)):=rfl
 rw [HI.out] at HPL
 generalize dG (cfn ys id) 0 ys.length=m at *
 generalize kL (cfn ys id) ys.length=fd at *
 by_cases hid1:id<1
 ·rw [if_pos (.inl hid1)]
  go_enter func272,ntmps272
  go_wp2_with (first
   | (go_at_call 73;refine HFA.out.mono ?_;rintro e w1 ⟨A1,c1,rfl,own1,hb1⟩;have f1:=own1.in_ (by omega))
   | (go_at_call 74;refine (HPL.out _ _ _ f1).mono ?_;rintro e w2 ⟨rfl,hb2⟩;have hw2:=hb1.trans (hb2.mono hb1.size)))
  go_ret2
  exact ⟨none,0,rfl,lH.nil _ _,hw2⟩
 by_cases hid2:1048576<id
 ·rw [if_pos (.inr hid2)]
  go_enter func272,ntmps272
  go_wp2_with (first
   | (go_at_call 73;refine HFA.out.mono ?_;rintro e w1 ⟨A1,c1,rfl,own1,hb1⟩;have f1:=own1.in_ (by omega))
   | (go_at_call 74;refine (HPL.out _ _ _ f1).mono ?_;rintro e w2 ⟨rfl,hb2⟩;have hw2:=hb1.trans (hb2.mono hb1.size)))
  go_ret2
  exact ⟨none,0,rfl,lH.nil _ _,hw2⟩
 rw [if_neg (by omega)]
 cases fd with
 | true =>
  rw [if_pos rfl]
  go_enter func272,ntmps272
  go_wp2_with (first
   | (go_at_call 73;refine HFA.out.mono ?_;rintro e w1 ⟨A1,c1,rfl,own1,hb1⟩;have f1:=own1.in_ (by omega))
   | (go_at_call 74;refine (HPL.out _ _ _ f1).mono ?_;rintro e w2 ⟨rfl,hb2⟩;have hw2:=hb1.trans (hb2.mono hb1.size)))
  go_ret2
  exact ⟨none,0,rfl,lH.nil _ _,hw2⟩
 | false =>
  rw [if_neg (by decide)]
  by_cases h32:32<=ys.length
  ·rw [if_pos h32]
   have h32':(32:Int)<=(ys.length:Int):=by omega
   go_enter func272,ntmps272
   go_wp2_with (first
    | (go_at_call 73;refine HFA.out.mono ?_;rintro e w1 ⟨A1,c1,rfl,own1,hb1⟩;have f1:=own1.in_ (by omega))
    | (go_at_call 74;refine (HPL.out _ _ _ f1).mono ?_;rintro e w2 ⟨rfl,hb2⟩;have hw2:=hb1.trans (hb2.mono hb1.size)))
   go_ret2
   exact ⟨none,0,rfl,lH.nil _ _,hw2⟩
  ·rw [if_neg h32]
   have h32':¬ (32:Int)<=(ys.length:Int):=by omega
   have HIN:jC (∀ (W:uA) (A:Option mB) (c:Nat) (xs:List Value),w.heap.size<=W.heap.size -> W.ownsRow w.heap.size 65 4 (.slice A ys.length c) ys.length xs -> (∀ u ∈ xs,u.oneCell'=true) -> iA prog 334 #[.slice A ys.length c,(m:Int),.slice (yA ⟨W.heap.size,0,none⟩) 1 1] (W.alloc (.cells #[id,.int .i64 1,.int .u32 sum,.slice none 0 0] 65)) (zDl 65 4 (ys.length+1) (xs.take (m * 4) ++ zDJ (zAY (id,1,sum,[]) (none,0)) ++ xs.drop (m * 4)) w.heap.size A (W.alloc (.cells #[id,.int .i64 1,.int .u32 sum,.slice none 0 0] 65)))):=fA fun W A c xs hW ho h1=>by
    have ha:=wA W (.cells #[id,.int .i64 1,.int .u32 sum,.slice none 0 0] 65)
    have g:=rB W (.cells #[id,.int .i64 1,.int .u32 sum,.slice none 0 0] 65)
    have o2:=jB ho ha
    have n2:W.heap.size ∉ zB A:=fun hc=>by have:=(qC ho _ hc).2;omega
    have l2:=pA hW ha.size
    generalize W.alloc (.cells #[id,.int .i64 1,.int .u32 sum,.slice none 0 0] 65)=W2 at *
    exact zMf w.heap.size c ys.length m W.heap.size A xs (zDJ (zAY (id,1,sum,[]) (none,0))) W2 l2 o2 g n2 rfl h1 (zEv _) hle (by omega)
   go_enter func272,ntmps272
   go_wp2_with (first
    | (go_at_call 73;refine HFA.out.mono ?_;rintro e w1 ⟨A1,c1,rfl,own1,hb1⟩;have f1:=own1.in_ (by omega))
    | (go_at_call 74;refine (HPL.out _ _ _ f1).mono ?_;rintro e w2 ⟨rfl,hb2⟩;have hw2:=hb1.trans (hb2.mono hb1.size);obtain ⟨ps,own2⟩:=own1.below hb2;have HO2:=fA own2;clear own1 own2 f1)
    | (go_at_call 334;refine (HIN.out w2 _ _ _ hw2.size HO2.out.row (jF zEv _)).mono ?_;rintro e w4 ⟨A4,c4,rfl,own4,ch4,hA4⟩))
   go_ret2
   have ha:=wA w2 (.cells #[id,.int .i64 1,.int .u32 sum,.slice none 0 0] 65)
   have el:(ys.take m ++ [(id,1,sum,([]:List Int))] ++ ys.drop m).length=ys.length+1:=by simp;omega
   have ch4':=ch4
   have hw4:Below w.heap.size w w4:=(hw2.trans (ha.mono hw2.size)).trans (ch4.to_below (fun x hx=>(qC HO2.out.row x hx).1) (pA hw2.size ha.size))
   refine ⟨A4,c4,by rw [el];rfl,?_,hw4⟩
   exact HO2.out.ins hw2.size (fD.pre ha ch4) (fun b hb=>(hA4 b hb).imp _root_.id (pA ha.size)) hle rfl own4
def vW (s:Int) (x:Ch):Ch × Int:=if 1073741824<=x.2.1 then (x,7) else ((x.1,yK (x.2.1+1),s,[]),0)
theorem zJg (S:Nat) (s:Int) (w:uA) (hS:S<w.heap.size) (hs:w.cell? ⟨S,0,none⟩=yA (.int .u32 s)):DoC 336 #[(S,0)] (vW s) w:=by
 intro W base b c ys m hm hb h1 h2 hml hho ho
 obtain ⟨hbb,hbl,a,cc,c0,c1,c2,c3,hoa,hmx,hf,hnb,hup⟩:=ho.upd h2 hm
 have hne:S≠b:=by omega
 have hsW:=((bcell hb).1 S 0 hS).trans hs
 have hfS:=hf
 have f1:=hf (m * 4+1)
 have f2:=hf (m * 4+2)
 have f3:=hf (m * 4+3)
 have HN:=fA (fun v (y:Ch) h4 h5=>ho.num hm 1 (by decide) v y h4 h5)
 have HO:=fA ho
 unfold vW
 generalize hx:ys[m]'hm=x at *
 obtain ⟨x1,x2,x3,x4⟩:=x
 simp only at c0 c1 c2 c3
 clear hup hoa hf hfS ho
 by_cases hv:1073741824<=x2
 ·rw [if_pos hv]
  go_enter func336,ntmps336
  go_wp2
  go_ret
  exact ⟨rfl,cC _ _⟩
 ·rw [if_neg hv]
  have hlo:x2<1073741824:=by omega
  have HY1:=HN.out (.int .i64 (yK (x2+1))) (x1,yK (x2+1),x3,x4) (fun a=>rfl) rfl
  have hm1:m<(ys.set m (x1,yK (x2+1),x3,x4)).length:=by simpa using hm
  have HY2:=HY1.num hm1 2 (by decide) (.int .u32 s) (x1,yK (x2+1),s,x4) (fun a=>by rw [eR];rfl) (by rw [eR])
  rw [List.set_set] at HY2
  have hm2:m<(ys.set m (x1,yK (x2+1),s,x4)).length:=by simpa using hm
  obtain ⟨_,_,a',cc',_,_,_,_,_,_,_,_,HY3⟩:=HY2.upd (by simpa using h2) hm2
  have HY4:=fA (HY3 _ none 0 [] (fD.refl _ _) (nB _ _ _ _) (fun k hk=>by cases hk) (by simp))
  clear HY1 HY2 HY3
  simp only [eR,List.set_set] at HY4
  go_enter func336,ntmps336
  go_wp2
  go_ret
  exact ⟨rfl,(((cC _ W).setCell (p:=⟨b,m * 4+1,none⟩) hbb _).setCell (p:=⟨b,m * 4+2,none⟩) hbb _).setCell (p:=⟨b,m * 4+3,none⟩) hbb _,HY4.out⟩
theorem lH.blk {w:uA} {base b c:Nat} {xs:List Ch} (h:lH w base (yA ⟨b,0,none⟩) c xs) (h0:0<xs.length):∃ cur,w.heap[b]?=yA (.cells cur 65):=by
 obtain ⟨ps,h⟩:=h
 obtain ⟨_,⟨h2,_⟩ | ⟨g,cap',cur,hv,hg,hh,r⟩⟩:=h.row
 ·cases h2
 ·injection hv with hv;injection hv with hv;injection hv with hv;subst hv
  exact ⟨cur,hh⟩
def zAX (node ver:Int) (x:Ch):Ch × Int:=if ver≠x.2.1 then (x,9) else if kL (ifn x.2.2.2 node) x.2.2.2.length then (x,6) else ((x.1,x.2.1,x.2.2.1,x.2.2.2.take (dG (ifn x.2.2.2 node) 0 x.2.2.2.length) ++ [node] ++ x.2.2.2.drop (dG (ifn x.2.2.2 node) 0 x.2.2.2.length)),0)
theorem zHF (N V:Nat) (node ver:Int) (w:uA) (hN:N<w.heap.size) (hV:V<w.heap.size) (hn:w.cell? ⟨N,0,none⟩=yA (.int .i64 node)) (hv:w.cell? ⟨V,0,none⟩=yA (.int .i64 ver)):DoC 337 #[(N,0),(V,0)] (zAX node ver) w:=by
 intro W base b c ys m hm hb h1 h2 hml hho ho
 obtain ⟨hbb,hbl,a,cc,c0,c1,c2,c3,hoa,hmx,hf,hnb,hup⟩:=ho.upd h2 hm
 have hne:N≠b:=by omega
 have hne2:V≠b:=by omega
 have hnW:=((bcell hb).1 N 0 hN).trans hn
 have hvW:=((bcell hb).1 V 0 hV).trans hv
 have f3:=hf (m * 4+3)
 have HFL:=fA (yB.of_own (enc:=kG) hoa hmx)
 have hho2:=hho _ (List.getElem_mem hm)
 unfold zAX
 generalize ys[m]'hm=x at *
 obtain ⟨x1,x2,x3,x4⟩:=x
 simp only at c0 c1 c2 c3 HFL hup hmx hoa hho2 ⊢
 have HBS:jC (∀ W',yB kG W' a cc x4 -> iA prog 338 #[.slice a x4.length cc,node] W' fun e w'=>e=.returned (.tuple #[.int .i64 (iT (ifn x4 node) x4.length),.bool (kL (ifn x4 node) x4.length)])/\w'=W'):=fA fun W' h=>zLb a cc x4 node W' h
 have HI:jC (iT (ifn x4 node) x4.length=((dG (ifn x4 node) 0 x4.length:Nat):Int)):=rfl
 have hle:=(zEm (ifn x4 node) 0 x4.length (vC _)).2
 rw [HI.out] at HBS
 generalize dG (ifn x4 node) 0 x4.length=k at *
 generalize kL (ifn x4 node) x4.length=fd at *
 by_cases hvv:ver=x2
 rotate_left 1
 ·rw [if_pos hvv]
  clear hup hoa hf
  go_enter func337,ntmps337
  go_wp2_with fail
  go_region_held3 (fun W=>W.cell? ⟨b,m * 4+3,none⟩=yA (.slice a x4.length cc)/\W.cell? ⟨N,0,none⟩=yA (.int .i64 node)) (exact ⟨c3,hnW⟩) ((go_at_call 338;refine (HBS.out _ HFL.out.drew).mono ?_;rintro e w1 ⟨rfl,hwx⟩;subst hwx))
  go_wp2_with fail
  go_quiet (fail)
  go_wp2
  go_ret
  exact ⟨rfl,Below.many (cC _ _).drew _,fun h=>by cases h⟩
 subst hvv
 rw [if_neg (by simp)]
 cases fd with
 | true =>
  rw [if_pos rfl]
  clear hup hoa hf
  go_enter func337,ntmps337
  go_wp2_with fail
  go_region_held3 (fun W=>W.cell? ⟨b,m * 4+3,none⟩=yA (.slice a x4.length cc)/\W.cell? ⟨N,0,none⟩=yA (.int .i64 node)) (exact ⟨c3,hnW⟩) ((go_at_call 338;refine (HBS.out _ HFL.out.drew).mono ?_;rintro e w1 ⟨rfl,hwx⟩;subst hwx))
  go_wp2_with fail
  go_quiet (fail)
  go_wp2
  go_ret
  exact ⟨rfl,Below.many (cC _ _).drew _,fun h=>by cases h⟩
 | false =>
  rw [if_neg (by decide)]
  go_enter func337,ntmps337
  go_wp2_with fail
  go_region_held3 (fun W=>W.cell? ⟨b,m * 4+3,none⟩=yA (.slice a x4.length cc)/\W.cell? ⟨N,0,none⟩=yA (.int .i64 node)) (exact ⟨c3,hnW⟩) ((go_at_call 338;refine (HBS.out _ HFL.out.drew).mono ?_;rintro e w1 ⟨rfl,hwx⟩;subst hwx))
  go_wp2_with fail
  go_quiet (fail)
  go_wp2_with fail
  have hb2:Below base W (W.drew.drewN nq):=Below.many (cC _ _).drew _
  have hbW:Below W.heap.size W (W.drew.drewN nq):=Below.many (cC _ _).drew _
  have hoa2:(W.drew.drewN nq).ownsRow base 3 1 (.slice a x4.length cc) x4.length (flat kG x4):=hoa
  have hs2:W.heap.size=(W.drew.drewN nq).heap.size:=rfl
  have hn2:(W.drew.drewN nq).cell? ⟨N,0,none⟩=yA (.int .i64 node):=hnW
  have c32:(W.drew.drewN nq).cell? ⟨b,m * 4+3,none⟩=yA (.slice a x4.length cc):=c3
  obtain ⟨cur,hcur⟩:=ho.blk (by omega)
  have hcur2:(W.drew.drewN nq).heap[b]?=yA (.cells cur 65):=hcur
  have HUP:=fA hup
  have HOA:=fA hoa2
  have HS:=fA hs2
  have hbl2:b<(W.drew.drewN nq).heap.size:=hbl
  have hNl2:N<(W.drew.drewN nq).heap.size:=Nat.lt_of_lt_of_le hN hb.size
  clear hup hoa hoa2 hf ho hs2
  generalize W.drew.drewN nq=W2 at *
  obtain ⟨W4,hW4⟩:∃ W4,W4=(W2.alloc (.cells #[node] 3)).drew:=⟨_,rfl⟩
  have hs4:base<=W4.heap.size:=by rw [hW4];simp;have:=HS.out;omega
  have hb4:Below W2.heap.size W2 W4:=by rw [hW4];exact (wA W2 _).drew
  have ho4:W4.ownsRow base 3 1 (.slice a x4.length cc) x4.length (flat kG x4):=jB HOA.out hb4
  have hV4:W4.heap[W2.heap.size]?=yA (.cells (kG node).toArray 3):=by rw [hW4];exact rB W2 _
  have hna:W2.heap.size ∉ zB a:=fun hc=>by have:=qC HOA.out _ hc;omega
  have hI:=zOo base cc x4.length k W2.heap.size a (flat kG x4) (kG node) W4 hs4 ho4 hV4 hna rfl (jF cV _) (cV _) hle hmx
  rw [vF] at hI
  have HIN:=fA hI
  clear hI
  have hcur4:=kA hb4 hcur2
  have HW4:=fA hW4
  have hk0:(0:Int)<=(k:Int):=by omega
  have c3a:=((bcell (wA W2 (.cells #[node] 3))).1 b (m * 4+3) hbl2).trans c32
  clear hW4 ho4 hV4 hna
  go_region_law (go_simp;go_at_call 339;rw [<- HW4.out];refine HIN.out.mono ?_;rintro e w5 ⟨A5,cc5,rfl,own5,ch5,hA5⟩;have hcur5:=ch5.keep hcur4 hnb;have c35:=((jA hcur5 (m * 4+3)).trans (jA hcur2 _).symm).trans c32;have f35:=qB hcur5 (m * 4+3);(try go_simp))
  all_goals (
   have hlen:(x4.take k ++ [node] ++ x4.drop k).length=x4.length+1:=by simp;omega
   have hch:fD (zB a) W w5:=fD.pre (hbW.trans (hb4.mono hbW.size)) ch5
   have hbb5:Below base W w5:=(hbW.trans (hb4.mono hbW.size)).mono (by omega) |>.trans (ch5.to_below (fun x hx=>(qC HOA.out x hx).1) hs4)
   have he:(flat kG x4).take k ++ kG node ++ (flat kG x4).drop k=flat kG (x4.take k ++ [node] ++ x4.drop k):=by
    rw [uD,uD,<- mL dN,<- wM dN,vF];rfl
   have HN:=HUP.out w5 A5 cc5 (x4.take k ++ [node] ++ x4.drop k) hch (by rw [hlen,<- he];exact own5) (fun z hz=>(hA5 z hz).imp id fun q=>pA (pA (Nat.le_of_eq HS.out) hb4.size) q) (by rw [hlen];omega)
   rw [hlen] at HN
   go_wp2
   go_ret
   exact ⟨rfl,hbb5.setCell (p:=⟨b,m * 4+3,none⟩) hbb _,fun _=>HN⟩)
end Go.Proofs.YtogbpifcmhafkaaGreat
