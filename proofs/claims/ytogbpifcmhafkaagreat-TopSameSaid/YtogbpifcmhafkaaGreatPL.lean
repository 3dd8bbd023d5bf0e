/-
 Part PL of the proof.
-/
import Derived.Test.YtogbpifcmhafkaaGreatPG
open Bool renaming and_eq_false_iff->jO,and_eq_true->kC,not_eq_false'->zCi,not_eq_true'->sW
open Go renaming Calls->iA,World->uA
open Go.Builtin renaming clear_->jE
open Go.Instr renaming slice->yF
open Go.Lib renaming hid->fA
open Go.Proofs.Tryz renaming underlying119->vY
open Go.RowKit renaming Hid->jC
open List renaming drop_eq_getElem_cons->pD,drop_eq_nil_of_le->fF,getD_eq_getElem?_getD->pB,getElem?_eq_getElem->rA,length_append->kB,length_drop->vD,length_take->sB,take_append_of_le_length->kD,take_take->dH
open Nat renaming add_zero->yJ,lt_of_lt_of_le->tA
open Option renaming getD_some->yD,some->yA
namespace Go.Proofs.YtogbpifcmhafkaaGreat
open Go.RowKit Tryz
open Go.Lib(hid)
set_option linter.unusedVariables false
set_option linter.unusedSimpArgs false
set_option maxRecDepth 100000
set_option maxHeartbeats 16000000
theorem zMo (x:Int) (w:uA):iA prog 226 #[x] w fun e w'=>e=.returned (.bool false)/\w'=w:=by
 go_enter func226,ntmps226
 go_wp2
 go_ret
 exact ⟨rfl,rfl⟩
theorem zEJ (x:Int) (w:uA):iA prog 365 #[x] w fun e w'=>e=.returned (.bool false)/\w'=w:=by
 go_enter func365,ntmps365
 go_wp2
 go_ret
 exact ⟨rfl,rfl⟩
theorem zIk (x y:Int) (w:uA):iA prog 299 #[x,y] w fun e w'=>e=.returned (.bool (decide (x<y)))/\w'=w:=by
 by_cases h1:x<y
 all_goals (
  go_enter func299,ntmps299
  go_wp2_with (go_at_call 226;refine (zMo _ _).mono ?_;rintro e wx ⟨rfl,hwx⟩;subst hwx)
  go_ret
  exact ⟨bC (by simp [h1]),rfl⟩)
def ifn (xs:List Int) (t:Int):Nat -> Int:=fun m=>gK (xs.getD m 0) t
theorem zEq (x y:Int):(gK x y<0) ↔ x<y:=by
 unfold gK
 constructor
 ·intro h;split at h
  ·assumption
  ·split at h <;> omega
 ·intro h;rw [if_pos h];omega
theorem zFL (x y:Int):(gK x y=0) ↔ x=y:=by
 unfold gK
 constructor
 ·intro h;split at h
  ·omega
  ·split at h <;> omega
 ·intro h;rw [if_neg (by omega),if_neg (by omega)]
theorem zLb (A : Option Addr) (c : Nat) (xs : List Int) (t : Int) (w : uA) (h : yB kG w A c xs) : iA prog 338 #[.slice A xs.length c, t] w fun e w' => e = .returned (.tuple #[.int .i64 (iT (ifn xs t) xs.length), .bool (kL (ifn xs t) xs.length)]) /\ w' = w := by
 have HI:=fA h
 have hmx:=h.max
 obtain ⟨f,hf⟩:∃ f:Nat -> Int,f=ifn xs t:=⟨_,rfl⟩
 have hfe:∀ m,gK (xs.getD m 0) t=f m:=fun m=>by rw [hf];rfl
 rw [<- hf]
 have HF:=fA hfe
 clear h hf hfe
 go_enter func338,ntmps338
 go_wp2
 go_loopw [7,8] (fun i j wr=>∃ (p q:Nat),p<=q/\q<=xs.length/\i=.int .i64 (p:Int)/\j=.int .i64 (q:Int)/\jC (dG f p q=dG f 0 xs.length)/\wr=w) (fun i j _=>(intOf j).toNat - (intOf i).toNat)
 case atStart=>exact ⟨0,xs.length,by omega,by omega,rfl,rfl,fA rfl,rfl⟩
 case round =>
  obtain ⟨p,q,hpq,hq,rfl,rfl,HB,rfl⟩:=hrel
  by_cases hlt:p<q
  ·have hlt':(p:Int)<(q:Int):=by omega
   have HB2:jC (dG f p q=if f ((p+q) / 2)<0 then dG f ((p+q) / 2+1) q else dG f p ((p+q) / 2)):=by
    show dG f p q=_
    rw [dG,if_pos hlt]
   have hpm:p<=(p+q) / 2/\(p+q) / 2<q:=by omega
   have em:((p:Int)+(q:Int)) / 2=(((p+q) / 2:Nat):Int):=by omega
   generalize (p+q) / 2=m at *
   have hm:m<xs.length:=by omega
   have hm0:(0:Int)<=(m:Int):=by omega
   have hm1:(m:Int)<(xs.length:Int):=by omega
   obtain ⟨b,off,rfl,blt,c0⟩:=uJ HI.out hm
   have hfm:=HF.out m
   rw [pB,rA hm,yD] at hfm
   generalize (xs[m]'hm)=x at *
   have HFM:=fA hfm
   clear hfm
   by_cases hneg:x<t
   ·have HB3:jC (dG f (m+1) q=dG f 0 xs.length):=by
     have:=HB2.out
     rw [if_pos (by rw [<- HFM.out];exact (zEq x t).2 hneg)] at this
     show dG f (m+1) q=_
     rw [<- this];exact HB.out
    clear HB2 HB
    go_wp2_with (go_at_call 299;refine (zIk _ _ _).mono ?_;rintro e w1 ⟨rfl,hwx⟩;subst hwx)
    go_roundw
    case rel=>exact ⟨m+1,q,by omega,by omega,by go_num,rfl,HB3,trivial⟩
    case measure=>simp [intOf];omega
   ·have HB3:jC (dG f p m=dG f 0 xs.length):=by
     have:=HB2.out
     rw [if_neg (by rw [<- HFM.out];exact fun hc=>hneg ((zEq x t).1 hc))] at this
     show dG f p m=_
     rw [<- this];exact HB.out
    clear HB2 HB
    go_wp2_with (go_at_call 299;refine (zIk _ _ _).mono ?_;rintro e w1 ⟨rfl,hwx⟩;subst hwx)
    go_roundw
    case rel=>exact ⟨p,m,by omega,by omega,rfl,rfl,HB3,trivial⟩
    case measure=>simp [intOf];omega
  have hlt':¬ (p:Int)<(q:Int):=by omega
  have HR:jC (p=dG f 0 xs.length):=by
   have:=HB.out
   rw [dG,if_neg hlt] at this
   exact this
  have HP:jC (iT f xs.length=(p:Int)):=fA (by unfold iT;rw [<- HR.out])
  by_cases hin:p<xs.length
  ·have hin':(p:Int)<(xs.length:Int):=by omega
   have hp0:(0:Int)<=(p:Int):=by omega
   obtain ⟨b,off,rfl,blt,c0⟩:=uJ HI.out hin
   have hfm:=HF.out p
   rw [pB,rA hin,yD] at hfm
   generalize (xs[p]'hin)=x at *
   have HZ:jC (kL f xs.length=decide (x=t)):=fA (by
    unfold kL
    rw [<- HR.out,<- hfm]
    simp only [hin,decide_true,Bool.true_and]
    exact decide_eq_decide.2 (zFL x t))
   clear hfm HB
   by_cases hxt:x=t
   ·subst hxt
    go_wp2_with (go_at_call 365;refine (zEJ _ _).mono ?_;rintro e w1 ⟨rfl,hwx⟩;subst hwx)
    go_ret2
    exact ⟨by rw [HP.out,HZ.out];rfl,rfl⟩
   ·go_wp2_with (go_at_call 365;refine (zEJ _ _).mono ?_;rintro e w1 ⟨rfl,hwx⟩;subst hwx)
    go_ret2
    exact ⟨by rw [HP.out,HZ.out];rfl,rfl⟩
  ·have hin':¬ (p:Int)<(xs.length:Int):=by omega
   have HZ:jC (kL f xs.length=false):=fA (by unfold kL;rw [<- HR.out];simp [hin])
   clear HB
   go_wp2
   go_ret2
   exact ⟨by rw [HP.out,HZ.out];rfl,rfl⟩
abbrev dY:List Value:=[.int .i64 0,.int .i64 0,.int .u32 0,.bool false,.bool false]
theorem zHn (w:uA) (ty:TypeId) (b o c:Nat) (hc:∀ j,j<5 -> (w.cell? ⟨b,o+j,none⟩).isSome=true) (hf:∀ j,j<5 -> w.frozen? ⟨b,o+j,none⟩=false) :
  (jE #[119] ty #[.slice (yA ⟨b,o,none⟩) 1 c]).run prog w=.ok (.tuple #[]) (w.setCells b o dY):=by
 have hv:(zeroValue 124).run prog w=.ok (.agg #[.int .i64 0,.int .i64 0,.int .u32 0,.bool false,.bool false]) w:=by kernel_rfl
 have hst:=run_storeCells_cells (P:=prog) b o dY 0 w (by simpa using hc) (by simpa using hf) (by intro v hv';simp only [dY,List.mem_cons,List.not_mem_nil,or_false] at hv';rcases hv' with rfl | rfl | rfl | rfl | rfl <;> rfl)
 simp only [yJ] at hst
 have hz:(Builtin.zeroCells (Value.agg #[.int .i64 0,.int .i64 0,.int .u32 0,.bool false,.bool false]).cells 1).toList=dY:=by kernel_rfl
 simp [jE,run_underlying vY,hv,hz,hst]
def zNs (b cap n:Nat) (xs:List Value) (w:uA) (en:Ending) (w':uA):Prop:=en=.returned (.slice (yA ⟨b,0,none⟩) n cap)/\w'.ownsRow b 124 5 (.slice (yA ⟨b,0,none⟩) n cap) n xs/\fD [b] w w'
theorem zNT (b cap n i:Nat) (xs:List Value) (w:uA) (ho:w.ownsRow b 124 5 (.slice (yA ⟨b,0,none⟩) n cap) n xs) (h1:∀ u ∈ xs,u.oneCell'=true) (hi:i<n) (hs:n<=1000000) :
  iA prog 290 #[.slice (yA ⟨b,0,none⟩) n cap,(i:Int),.int .i64 ((i:Int)+1)] w (zNs b cap (n - 1) (xs.take (i * 5) ++ xs.drop ((i+1) * 5)) w):=by
 obtain ⟨hxl,h0 | ⟨g,c',cur,hv,hg,hh,hnc,hcm,hsz,htk⟩⟩:=ho
 ·cases h0.1
 injection hv with e1 _ e3
 injection e1 with e1
 injection e1 with e1
 subst e1 e3
 obtain ⟨news,hnews⟩:∃ news,news=xs.drop ((i+1) * 5):=⟨_,rfl⟩
 have hlen:news.length=(n - (i+1)) * 5:=by rw [hnews,vD,hxl];omega
 have hxs:∀ t u,xs[t]?=yA u -> cur[t]?=yA u:=fun t u hu=>by
  rw [<- htk,List.getElem?_take] at hu
  split at hu
  ·simpa using hu
  ·cases hu
 obtain ⟨A,hA,hsrc⟩:∃ A:Addr,(if cap=i+1 then yA (⟨b,0,none⟩:Addr) else yA ⟨b,(i+1) * 5,none⟩)=yA A/\jC (∀ t u,news[t]?=yA u -> w.drew.cell? (A.add t)=yA u):=by
  by_cases h:cap=i+1
  ·refine ⟨⟨b,0,none⟩,by simp [h],fun t u hu => ?_⟩
   have h0:news.length=0:=by rw [hlen];omega
   rw [List.length_eq_zero_iff.1 h0] at hu
   simp at hu
  ·refine ⟨⟨b,(i+1) * 5,none⟩,by simp [h],fun t u hu => ?_⟩
   rw [hnews,List.getElem?_drop] at hu
   have:=jA hh ((i+1) * 5+t)
   rw [Addr.add_lit]
   exact this.trans (hxs _ u hu)
 have s1:jC (news.length=(n - (i+1)) * 5):=hlen
 have s2:jC (∀ u ∈ news,u.oneCell'=true):=fun u hu=>h1 u (by rw [hnews] at hu;exact List.mem_of_mem_drop hu)
 have s3:jC (∀ t,t<news.length -> (w.drew.cell? ⟨b,0+i * 5+t,none⟩).isSome=true/\w.drew.frozen? ⟨b,0+i * 5+t,none⟩=false):=by
  intro t ht
  rw [hlen] at ht
  refine ⟨?_,qB hh _⟩
  show (w.cell? ⟨b,0+i * 5+t,none⟩).isSome=true
  rw [jA hh]
  simp
  omega
 obtain ⟨W1,hW1⟩:∃ W1,W1=w.drew.setCells b (0+i * 5) news:=⟨_,rfl⟩
 have hB1:W1.heap[b]?=yA (.cells (zEa cur (i * 5) news) 124):=by
  rw [hW1,Nat.zero_add]
  exact uI news (i * 5) w.drew cur hh
 have hC1:fD [b] w W1:=by rw [hW1];exact rK (by simp) news _ (fD.refl _ _).drew
 have hcl:∀ ty,(jE #[119] ty #[.slice (yA ⟨b,(n - 1) * 5,none⟩) 1 (cap - (n - 1))]).run prog W1=.ok (.tuple #[]) (W1.setCells b ((n - 1) * 5) dY):=fun ty =>
  zHn W1 ty b ((n - 1) * 5) _ (fun j hj=>by rw [jA hB1];simp [jG];omega) (fun j hj=>qB hB1 _)
 have hB2:=uI dY ((n - 1) * 5) W1 _ hB1
 have hC2:fD [b] w (W1.setCells b ((n - 1) * 5) dY):=rK (by simp) dY _ hC1
 have hfin:(W1.setCells b ((n - 1) * 5) dY).ownsRow b 124 5 (.slice (yA ⟨b,0,none⟩) (n - 1) cap) (n - 1) (xs.take (i * 5) ++ xs.drop ((i+1) * 5)):=by
  refine ⟨by rw [kB,sB,vD,hxl];omega,.inr ⟨b,cap,_,rfl,Nat.le_refl _,hB2,by omega,hcm,by rw [jG,jG];exact hsz,?_⟩⟩
  rw [dJ _ _ _ (by rw [jG];simp;omega),List.append_assoc,kD (by rw [sB,Array.length_toList,jG];omega),dH,Nat.min_self,dJ _ _ _ (by omega)]
  have e2:(cur.toList.take (i * 5))=xs.take (i * 5):=by rw [<- htk,dH,Nat.min_eq_left (by omega)]
  rw [e2,<- hnews,kD (by rw [kB,sB,hxl,hlen];omega),List.take_of_length_le (by rw [kB,sB,hxl,hlen];omega)]
 have hW:jC (W1=w.drew.setCells b (0+i * 5) news):=hW1
 have HF:=fA hfin
 have HC:=fA hC2
 have hlt:(i:Int)<(i:Int)+1:=by omega
 have hi0:(0:Int)<=(i:Int):=by omega
 have hin:(i:Int)+1<=(n:Int):=by omega
 have hne:((i:Int) == (i:Int)+1)=false:=by simp;omega
 clear hW1 hB1 hC1 hB2 hC2 hfin hh hsz htk hxs hnews hlen hxl
 go_enter func290,ntmps290
 have hs1:∀ W,(yF 119 (.slice (yA ⟨b,0,none⟩) n cap) none (yA (.int .i64 (i:Int))) none).run prog W=.ok (.slice (yA ⟨b,0,none⟩) i cap) W:=fun W=>mP (P:=prog) oX (yA ⟨b,0,none⟩) n cap i (by omega) W
 have hs2:∀ W,(yF 119 (.slice (yA ⟨b,0,none⟩) n cap) (yA (.int .i64 ((i:Int)+1))) none none).run prog W=.ok (.slice (yA A) (n - (i+1)) (cap - (i+1))) W:=fun W=>by
  have:=eK (P:=prog) oX (yA ⟨b,0,none⟩) n cap (i+1) (by omega) W
  rw [show (((i+1:Nat)):Int)=(i:Int)+1 by omega] at this
  rw [this,<- hA]
  unfold cutS
  split <;> simp [Addr.add]
 obtain ⟨i0,hi0',hz0,hz1,hz2⟩:=info_parts oX.info
 go_upto_region 5 with fail
 go_region_law (refine step_append_room rfl (.tmp 22) (.tmp 25) 119 rfl 124 i0 5 vY hi0' hz1 b 0 i cap (by rfl) A (n - (i+1)) (cap - (i+1)) news (by rfl) s1.out hsrc.out s2.out (by omega) s3.out ?_;rw [<- hW.out])
 have hcl2:∀ ty,(jE #[119] ty #[.slice (yA ⟨b,(i+(n - (i+1))) * 5,none⟩) (n - (i+(n - (i+1)))) (cap - (i+(n - (i+1))))]).run prog W1=.ok (.tuple #[]) (W1.setCells b ((n - 1) * 5) dY):=fun ty=>by
  have e1:i+(n - (i+1))=n - 1:=by omega
  have e2:n - (n - 1)=1:=by omega
  rw [e1,e2]
  exact hcl ty
 clear hcl
 go_wp2
 have e1:i+(n - (i+1))=n - 1:=by omega
 go_ret
 rw [e1]
 exact ⟨rfl,HF.out,HC.out⟩
def zIb (b:Bool):Int:=if b then 1 else 0
theorem zOb (b:Bool) (w:uA):iA prog 360 #[.bool b] w fun e w'=>e=.returned (.int .i64 (zIb b))/\w'=w:=by
 cases b
 all_goals (
  go_enter func360,ntmps360
  go_wp2
  go_ret
  exact ⟨rfl,rfl⟩)
def zMA:List Int -> Int
 | []=>0
 | x :: xs=>if x=0 then zMA xs else x
theorem zRK (xs:List Int) {k:Nat} (hk:k<xs.length):zMA (xs.drop k)=if xs[k]'hk=0 then zMA (xs.drop (k+1)) else xs[k]'hk:=by rw [pD hk];rfl
theorem zRL (A : Option Addr) (c : Nat) (xs : List Int) (w : uA) (h : yB kG w A c xs) : iA prog 253 #[.slice A xs.length c] w fun e w' => e = .returned (.int .i64 (zMA xs)) /\ w' = w := by
 have HI:=fA h
 have hmx:=h.max
 have HR0:jC (zMA (xs.drop 0)=zMA xs):=fA rfl
 clear h
 go_enter func253,ntmps253
 go_wp2
 go_loopw [5,8] (fun v i wr=>∃ (k:Nat),k<=xs.length/\i=.int .i64 (k:Int)/\jC (zMA (xs.drop k)=zMA xs)/\wr=w) (fun _ i _=>xs.length - (intOf i).toNat)
 case atStart=>exact ⟨0,by omega,rfl,HR0,rfl⟩
 case round =>
  clear HR0
  obtain ⟨k,hk,rfl,HR,rfl⟩:=hrel
  have hk0:(0:Int)<=(k:Int):=by omega
  by_cases hlt:k<xs.length
  ·have hk1:(k:Int)<(xs.length:Int):=by omega
   have HS:=fA (zRK xs hlt)
   obtain ⟨b,off,rfl,blt,c0⟩:=uJ HI.out hlt
   generalize (xs[k]'hlt)=x at *
   by_cases hx:x=0
   ·subst hx
    have HZ:jC (zMA (xs.drop (k+1))=zMA xs):=fA (by rw [<- HR.out,HS.out,if_pos rfl])
    go_wp2
    go_roundw
    case rel=>exact ⟨k+1,by omega,by go_num,HZ,trivial⟩
    case measure=>simp [intOf];omega
   ·have HZ:jC (zMA xs=x):=fA (by rw [<- HR.out,HS.out,if_neg hx])
    go_wp2
    go_ret
    exact ⟨by rw [HZ.out];rfl,rfl⟩
  have hk1:¬ (k:Int)<(xs.length:Int):=by omega
  have HZ:jC (zMA xs=0):=fA (by rw [<- HR.out,fF (by omega)];rfl)
  go_wp2
  go_ret
  exact ⟨by rw [HZ.out];rfl,rfl⟩
def zKC (x y:Rp):Int:=zMA [gK x.1 y.1,gK (zIb x.2.2.2.1) (zIb y.2.2.2.1)]
theorem yG {w:uA} {F:Nat} {c0 c1 c2 c3 c4:Value} {t:TypeId} (h:w.heap[F]?=yA (.cells #[c0,c1,c2,c3,c4] t)):w.cell? ⟨F,0,none⟩=yA c0/\w.cell? ⟨F,1,none⟩=yA c1/\w.cell? ⟨F,2,none⟩=yA c2/\w.cell? ⟨F,3,none⟩=yA c3/\w.cell? ⟨F,4,none⟩=yA c4/\w.frozen? ⟨F,0,none⟩=false/\w.frozen? ⟨F,1,none⟩=false/\w.frozen? ⟨F,2,none⟩=false/\w.frozen? ⟨F,3,none⟩=false/\w.frozen? ⟨F,4,none⟩=false/\F<w.heap.size :=
 ⟨jA h 0,jA h 1,jA h 2,jA h 3,jA h 4,qB h 0,qB h 1,qB h 2,qB h 3,qB h 4,eB h⟩
theorem zCH (x1 x2 x3 y1 y2 y3:Int) (x4 x5 y4 y5:Bool) (w:uA):iA prog 330 #[.agg #[x1,x2,.int .u32 x3,.bool x4,.bool x5],.agg #[y1,y2,.int .u32 y3,.bool y4,.bool y5]] w fun e w'=>e=.returned (.int .i64 (zKC (x1,x2,x3,x4,x5) (y1,y2,y3,y4,y5)))/\Below w.heap.size w w':=by
 obtain ⟨W,hW⟩:∃ W,W=(w.alloc (.cells #[x1,x2,.int .u32 x3,.bool x4,.bool x5] 124)).alloc (.cells #[y1,y2,.int .u32 y3,.bool y4,.bool y5] 124):=⟨_,rfl⟩
 have hb:Below w.heap.size w W:=by rw [hW];exact yI _ _ _
 have g1:W.heap[w.heap.size]?=yA (.cells #[x1,x2,.int .u32 x3,.bool x4,.bool x5] 124):=by rw [hW];exact bG _ _ _
 have g2:W.heap[w.heap.size+1]?=yA (.cells #[y1,y2,.int .u32 y3,.bool y4,.bool y5] 124):=by rw [hW];exact sF _ _ _
 have HW:=fA hW
 obtain ⟨c0,c1,c2,c3,c4,_,_,_,_,_,clt⟩:=yG g1
 obtain ⟨d0,d1,d2,d3,d4,_,_,_,_,_,dlt⟩:=yG g2
 have HOR:=fA zRL
 have HC:=fA gP
 have HFL:=fA zOb
 unfold zKC
 simp only
 clear hW g1 g2
 go_enter func330,ntmps330
 go_wp2_with fail
 rw [<- HW.out]
 clear HW
 generalize hF0:w.heap.size=F0 at *
 generalize hF1:F0+1=F1 at *
 go_region_held3 (fun W=>W.cell? ⟨F0,0,none⟩=yA (.int .i64 x1)/\W.cell? ⟨F1,0,none⟩=yA (.int .i64 y1)/\W.cell? ⟨F0,3,none⟩=yA (.bool x4)/\W.cell? ⟨F1,3,none⟩=yA (.bool y4)) (first | exact ⟨c0,d0,c3,d3⟩ | exact ⟨((bcell (wA _ _)).1 F0 0 clt).trans c0,((bcell (wA _ _)).1 F1 0 dlt).trans d0,((bcell (wA _ _)).1 F0 3 clt).trans c3,((bcell (wA _ _)).1 F1 3 dlt).trans d3⟩) (first
  | (go_at_call 146;refine (HC.out _ _ _).mono ?_;rintro e wx ⟨rfl,hwx⟩;subst hwx)
  | (go_at_call 360;refine (HFL.out _ _).mono ?_;rintro e wx ⟨rfl,hwx⟩;subst hwx)
  | (go_at_call 253;refine (HOR.out (yA ⟨W.drew.heap.size,0,none⟩) 2 [gK x1 y1,gK (zIb x4) (zIb y4)] _ ⟨dC.new W.drew _ _,by simp,fun h=>by simp at h,by simp⟩).mono ?_;rintro e wx ⟨rfl,hwx⟩;subst hwx))
 go_wp2
 go_ret
 subst hF1 hF0
 exact ⟨rfl,(hb.alloc hb.size _).drew⟩
def zY (x:Rp):Bool:=decide (1<=x.1) && decide (x.1<=1048576) && decide (1<=x.2.1) && decide (x.2.1<=1073741824)
theorem zGi (x1 x2 x3 : Int) (x4 x5 : Bool) (w : uA) : iA prog 288 #[.agg #[x1, x2, .int .u32 x3, .bool x4, .bool x5]] w fun e w' => e = .returned (.bool (zY (x1, x2, x3, x4, x5))) /\ Below w.heap.size w w' := by
 have hal:=wA w (.cells #[x1,x2,.int .u32 x3,.bool x4,.bool x5] 124)
 unfold zY
 simp only
 by_cases h1:1<=x1
 ·by_cases h2:x1<=1048576
  ·by_cases h3:1<=x2
   all_goals (
    go_enter func288,ntmps288
    go_wp2
    go_ret
    exact ⟨bC (by simp [h1,h2,h3] <;> (intros;omega)),hal⟩)
  ·go_enter func288,ntmps288
   go_wp2
   go_ret
   exact ⟨bC (by simp [h1,h2] <;> (intros;omega)),hal⟩
 ·go_enter func288,ntmps288
  go_wp2
  go_ret
  exact ⟨bC (by simp [h1] <;> (intros;omega)),hal⟩
def zDZ (x:Rp):Bool:=zY x && !(x.2.2.2.1 && x.2.2.2.2)
def zHk (p x:Rp):Bool:=decide (zKC p x<0) && !(decide (p.1=x.1) && decide (x.2.1<=p.2.1))
def oO:Option Rp -> List Rp -> Bool
 | _,[]=>true
 | none,x :: xs=>zDZ x && oO (yA x) xs
 | some p,x :: xs=>zDZ x && (zHk p x && oO (yA x) xs)
theorem zQO (xs:List Rp) (h:0<xs.length):oO none xs=(zDZ (xs[0]'h) && oO (yA (xs[0]'h)) (xs.drop 1)):=by
 cases xs with
 | nil=>simp at h
 | cons x xs=>rfl
theorem zPn (p:Rp) (xs:List Rp) {k:Nat} (hk:k<xs.length):oO (yA p) (xs.drop k)=(zDZ (xs[k]'hk) && (zHk p (xs[k]'hk) && oO (yA (xs[k]'hk)) (xs.drop (k+1)))):=by rw [pD hk];rfl
def zDc (xs:List Rp):Nat -> Option Rp
 | 0=>none
 | k+1=>xs[k]?
theorem zOH (A : Option Addr) (c : Nat) (xs : List Rp) (w : uA) (h : yB fJ w A c xs) : iA prog 331 #[.slice A xs.length c] w fun e w' => e = .returned (.bool (oO none xs)) /\ Below w.heap.size w w' := by
 have HI:=fA h
 have hmx:=h.max
 have hb0:=xC w
 have HR0:jC (oO (zDc xs 0) (xs.drop 0)=oO none xs):=fA rfl
 have HNA:=fA zGi
 have HOR:=fA zCH
 clear h
 go_enter func331,ntmps331
 go_wp2
 go_loopw [3,4,7] (fun v3 v4 i wr=>∃ (k:Nat),k<=xs.length/\i=.int .i64 (k:Int)/\jC (oO (zDc xs k) (xs.drop k)=oO none xs)/\Below w.heap.size w wr) (fun _ _ i _=>xs.length - (intOf i).toNat)
 case atStart=>exact ⟨0,by omega,rfl,HR0,hb0⟩
 case round =>
  clear hb0 HR0
  obtain ⟨k,hk,rfl,HR,hw⟩:=hrel
  have hk0:(0:Int)<=(k:Int):=by omega
  by_cases hlt:k<xs.length
  ·have hk1:(k:Int)<(xs.length:Int):=by omega
   obtain ⟨b,off,rfl,blt,c0,c1,c2,c3,c4⟩:=rR (HI.out.below hw) hlt
   obtain ⟨x,hx⟩:∃ x,x=xs[k]'hlt:=⟨_,rfl⟩
   rw [<- hx] at c0 c1 c2 c3 c4
   have HX:=fA hx
   obtain ⟨x1,x2,x3,x4,x5⟩:=x
   simp only at c0 c1 c2 c3 c4
   clear hx
   have hal:=wA wr (.cells #[x1,x2,.int .u32 x3,.bool x4,.bool x5] 124)
   have gX:=rB wr (.cells #[x1,x2,.int .u32 x3,.bool x4,.bool x5] 124)
   have hw0:=hw.trans (hal.mono hw.size)
   cases k with
   | zero =>
    have HZ:jC (oO none xs=(zDZ (x1,x2,x3,x4,x5) && oO (yA (x1,x2,x3,x4,x5)) (xs.drop 1))):=fA (by rw [zQO xs hlt,<- HX.out])
    have HN:jC (zDc xs 1=yA (x1,x2,x3,x4,x5)):=fA (by rw [zDc,rA hlt,<- HX.out])
    have hk1':(0:Int)<(xs.length:Int):=by omega
    simp only [Nat.zero_mul,yJ] at c0 c1 c2 c3 c4
    cases hok:zDZ (x1,x2,x3,x4,x5) with
    | false =>
     have HF:jC (oO none xs=false):=fA (by rw [HZ.out,hok];rfl)
     simp only [zDZ,jO,zCi,kC] at hok
     by_cases hnm:zY (x1,x2,x3,x4,x5)=true
     ·obtain ⟨h4,h5⟩:=hok.resolve_left (by simp [hnm])
      subst h4 h5
      have HNB:=fA (fun W=>HNA.out x1 x2 x3 true true W)
      rw [hnm] at HNB
      clear hok hnm
      go_wp2_with (go_at_call 288;refine (HNB.out _).mono ?_;rintro e w2 ⟨rfl,hb2⟩;have g2:=kA hb2 gX;have hb02:=hal.trans (hb2.mono hal.size);have hw2:=hw.trans (hb02.mono hw.size);obtain ⟨e0,e1,e2,e3,e4,_,_,_,_,_,elt⟩:=yG g2)
      go_ret
      exact ⟨bC HF.out.symm,hw2⟩
     ·have hnm':zY (x1,x2,x3,x4,x5)=false:=by simpa using hnm
      have HNB:=fA (fun W=>HNA.out x1 x2 x3 x4 x5 W)
      rw [hnm'] at HNB
      clear hok hnm hnm'
      go_wp2_with (go_at_call 288;refine (HNB.out _).mono ?_;rintro e w2 ⟨rfl,hb2⟩;have g2:=kA hb2 gX;have hb02:=hal.trans (hb2.mono hal.size);have hw2:=hw.trans (hb02.mono hw.size);obtain ⟨e0,e1,e2,e3,e4,_,_,_,_,_,elt⟩:=yG g2)
      go_ret
      exact ⟨bC HF.out.symm,hw2⟩
    | true =>
     have HF:jC (oO (zDc xs 1) (xs.drop 1)=oO none xs):=fA (by rw [HN.out,HZ.out,hok];rfl)
     simp only [zDZ,kC,sW,jO] at hok
     have HNB:=fA (fun W=>HNA.out x1 x2 x3 x4 x5 W)
     rw [hok.1] at HNB
     rcases hok.2 with h4 | h5
     ·subst h4
      clear hok
      go_wp2_with (go_at_call 288;refine (HNB.out _).mono ?_;rintro e w2 ⟨rfl,hb2⟩;have g2:=kA hb2 gX;have hb02:=hal.trans (hb2.mono hal.size);have hw2:=hw.trans (hb02.mono hw.size);obtain ⟨e0,e1,e2,e3,e4,_,_,_,_,_,elt⟩:=yG g2)
      go_quiet (fail)
      go_wp2_with fail
      go_quiet (fail)
      go_wp2
      go_roundw
      case rel=>exact ⟨1,by omega,by go_num,HF,Below.many hw2 _⟩
      case measure=>simp [intOf];omega
     ·subst h5
      clear hok
      cases x4 <;> (
      go_wp2_with (go_at_call 288;refine (HNB.out _).mono ?_;rintro e w2 ⟨rfl,hb2⟩;have g2:=kA hb2 gX;have hb02:=hal.trans (hb2.mono hal.size);have hw2:=hw.trans (hb02.mono hw.size);obtain ⟨e0,e1,e2,e3,e4,_,_,_,_,_,elt⟩:=yG g2)
      go_quiet (fail)
      go_wp2_with fail
      go_quiet (fail)
      go_wp2
      go_roundw
      case rel=>exact ⟨1,by omega,by go_num,HF,Below.many hw2 _⟩
      case measure=>simp [intOf];omega)
   | succ j =>
    have hj:j<xs.length:=by omega
    obtain ⟨b',off',hbo,_,d0,d1,d2,d3,d4⟩:=rR (HI.out.below hw) hj
    injection hbo with hbo
    injection hbo with hb1 hb2
    subst hb1 hb2
    obtain ⟨y,hy⟩:∃ y,y=xs[j]'hj:=⟨_,rfl⟩
    rw [<- hy] at d0 d1 d2 d3 d4
    have HY:=fA hy
    obtain ⟨y1,y2,y3,y4,y5⟩:=y
    simp only at d0 d1 d2 d3 d4
    have HZ:jC (oO none xs=(zDZ (x1,x2,x3,x4,x5) && (zHk (y1,y2,y3,y4,y5) (x1,x2,x3,x4,x5) && oO (yA (x1,x2,x3,x4,x5)) (xs.drop (j+1+1))))):=fA (by rw [<- HR.out,zDc,rA hj,<- hy,zPn _ xs hlt,<- HX.out])
    have HN:jC (zDc xs (j+1+1)=yA (x1,x2,x3,x4,x5)):=fA (by rw [zDc,rA hlt,<- HX.out])
    have hj0:(0:Int)<=(j:Int):=by omega
    have hj1:(j:Int)+1<(xs.length:Int):=by omega
    have hj2:(j:Int)<(xs.length:Int):=by omega
    have hwj:IntKind.i64.wrap (j:Int)=(j:Int):=oH (by omega) (by omega)
    have hwj2:IntKind.i64.wrap ((j:Int)+1 - 1)=(j:Int):=by rw [oH (by omega) (by omega)];omega
    clear hy hk0 hk1
    cases hok:zDZ (x1,x2,x3,x4,x5) with
    | false =>
     have HF:jC (oO none xs=false):=fA (by rw [HZ.out,hok];rfl)
     simp only [zDZ,jO,zCi,kC] at hok
     by_cases hnm:zY (x1,x2,x3,x4,x5)=true
     ·obtain ⟨h4,h5⟩:=hok.resolve_left (by simp [hnm])
      subst h4 h5
      have HNB:=fA (fun W=>HNA.out x1 x2 x3 true true W)
      rw [hnm] at HNB
      clear hok hnm
      go_wp2_with (go_at_call 288;refine (HNB.out _).mono ?_;rintro e w2 ⟨rfl,hb2⟩;have g2:=kA hb2 gX;have hb02:=hal.trans (hb2.mono hal.size);have hw2:=hw.trans (hb02.mono hw.size);obtain ⟨e0,e1,e2,e3,e4,_,_,_,_,_,elt⟩:=yG g2;have m0:=((bcell hb02).1 b (off+j * 5) blt).trans d0;have m1:=((bcell hb02).1 b (off+j * 5+1) blt).trans d1;have m2:=((bcell hb02).1 b (off+j * 5+2) blt).trans d2;have m3:=((bcell hb02).1 b (off+j * 5+3) blt).trans d3;have m4:=((bcell hb02).1 b (off+j * 5+4) blt).trans d4;have blt2:=tA blt hb02.size)
      go_ret
      exact ⟨bC HF.out.symm,hw2⟩
     ·have hnm':zY (x1,x2,x3,x4,x5)=false:=by simpa using hnm
      have HNB:=fA (fun W=>HNA.out x1 x2 x3 x4 x5 W)
      rw [hnm'] at HNB
      clear hok hnm hnm'
      go_wp2_with (go_at_call 288;refine (HNB.out _).mono ?_;rintro e w2 ⟨rfl,hb2⟩;have g2:=kA hb2 gX;have hb02:=hal.trans (hb2.mono hal.size);have hw2:=hw.trans (hb02.mono hw.size);obtain ⟨e0,e1,e2,e3,e4,_,_,_,_,_,elt⟩:=yG g2;have m0:=((bcell hb02).1 b (off+j * 5) blt).trans d0;have m1:=((bcell hb02).1 b (off+j * 5+1) blt).trans d1;have m2:=((bcell hb02).1 b (off+j * 5+2) blt).trans d2;have m3:=((bcell hb02).1 b (off+j * 5+3) blt).trans d3;have m4:=((bcell hb02).1 b (off+j * 5+4) blt).trans d4;have blt2:=tA blt hb02.size)
      go_ret
      exact ⟨bC HF.out.symm,hw2⟩
    | true =>
     rw [hok] at HZ
     simp only [zDZ,kC,sW,jO] at hok
     have HNB:=fA (fun W=>HNA.out x1 x2 x3 x4 x5 W)
     rw [hok.1] at HNB
     have HOB:=fA (fun W=>HOR.out y1 y2 y3 x1 x2 x3 y4 y5 x4 x5 W)
     have HNX:jC (zHk (y1,y2,y3,y4,y5) (x1,x2,x3,x4,x5)=(decide (zKC (y1,y2,y3,y4,y5) (x1,x2,x3,x4,x5)<0) && !(decide (y1=x1) && decide (x2<=y2)))):=fA rfl
     generalize zKC (y1,y2,y3,y4,y5) (x1,x2,x3,x4,x5)=o at *
     have h45:x4=false\/(x4=true/\x5=false):=by
      rcases hok.2 with h | h
      ·exact .inl h
      ·cases x4
       ·exact .inl rfl
       ·exact .inr ⟨rfl,h⟩
     clear hok
     rcases h45 with rfl | ⟨rfl,rfl⟩
     all_goals
      go_wp2_with (go_at_call 288;refine (HNB.out _).mono ?_;rintro e w2 ⟨rfl,hb2⟩;have g2:=kA hb2 gX;have hb02:=hal.trans (hb2.mono hal.size);have hw2:=hw.trans (hb02.mono hw.size);obtain ⟨e0,e1,e2,e3,e4,_,_,_,_,_,elt⟩:=yG g2;have m0:=((bcell hb02).1 b (off+j * 5) blt).trans d0;have m1:=((bcell hb02).1 b (off+j * 5+1) blt).trans d1;have m2:=((bcell hb02).1 b (off+j * 5+2) blt).trans d2;have m3:=((bcell hb02).1 b (off+j * 5+3) blt).trans d3;have m4:=((bcell hb02).1 b (off+j * 5+4) blt).trans d4;have blt2:=tA blt hb02.size)
      first
       | go_region_held3 (fun W=>W.cell? ⟨b,off+j * 5,none⟩=yA (.int .i64 y1)/\W.cell? ⟨b,off+j * 5+1,none⟩=yA (.int .i64 y2)/\W.cell? ⟨b,off+j * 5+2,none⟩=yA (.int .u32 y3)/\W.cell? ⟨b,off+j * 5+3,none⟩=yA (.bool y4)/\W.cell? ⟨b,off+j * 5+4,none⟩=yA (.bool y5)/\W.cell? ⟨wr.heap.size,0,none⟩=yA (.int .i64 x1)/\W.cell? ⟨wr.heap.size,1,none⟩=yA (.int .i64 x2)/\W.cell? ⟨wr.heap.size,2,none⟩=yA (.int .u32 x3)/\W.cell? ⟨wr.heap.size,3,none⟩=yA (.bool false)/\W.cell? ⟨wr.heap.size,4,none⟩=yA (.bool x5)) (first | exact ⟨m0,m1,m2,m3,m4,e0,e1,e2,e3,e4⟩ | exact ⟨n0,n1,n2,n3,n4,p0,p1,p2,p3,p4⟩) ((go_at_call 330;refine (HOB.out _).mono ?_;rintro e w3 ⟨rfl,hb3⟩;have g3:=kA hb3 (iB g2);have hw3:=hw2.drew.trans (hb3.mono hw2.size);obtain ⟨p0,p1,p2,p3,p4,_,_,_,_,_,plt⟩:=yG g3;have n0:=((bcell hb3).1 b (off+j * 5) blt2).trans m0;have n1:=((bcell hb3).1 b (off+j * 5+1) blt2).trans m1;have n2:=((bcell hb3).1 b (off+j * 5+2) blt2).trans m2;have n3:=((bcell hb3).1 b (off+j * 5+3) blt2).trans m3;have n4:=((bcell hb3).1 b (off+j * 5+4) blt2).trans m4))
       | go_region_held3 (fun W=>W.cell? ⟨b,off+j * 5,none⟩=yA (.int .i64 y1)/\W.cell? ⟨b,off+j * 5+1,none⟩=yA (.int .i64 y2)/\W.cell? ⟨b,off+j * 5+2,none⟩=yA (.int .u32 y3)/\W.cell? ⟨b,off+j * 5+3,none⟩=yA (.bool y4)/\W.cell? ⟨b,off+j * 5+4,none⟩=yA (.bool y5)/\W.cell? ⟨wr.heap.size,0,none⟩=yA (.int .i64 x1)/\W.cell? ⟨wr.heap.size,1,none⟩=yA (.int .i64 x2)/\W.cell? ⟨wr.heap.size,2,none⟩=yA (.int .u32 x3)/\W.cell? ⟨wr.heap.size,3,none⟩=yA (.bool true)/\W.cell? ⟨wr.heap.size,4,none⟩=yA (.bool false)) (first | exact ⟨m0,m1,m2,m3,m4,e0,e1,e2,e3,e4⟩ | exact ⟨n0,n1,n2,n3,n4,p0,p1,p2,p3,p4⟩) ((go_at_call 330;refine (HOB.out _).mono ?_;rintro e w3 ⟨rfl,hb3⟩;have g3:=kA hb3 (iB g2);have hw3:=hw2.drew.trans (hb3.mono hw2.size);obtain ⟨p0,p1,p2,p3,p4,_,_,_,_,_,plt⟩:=yG g3;have n0:=((bcell hb3).1 b (off+j * 5) blt2).trans m0;have n1:=((bcell hb3).1 b (off+j * 5+1) blt2).trans m1;have n2:=((bcell hb3).1 b (off+j * 5+2) blt2).trans m2;have n3:=((bcell hb3).1 b (off+j * 5+3) blt2).trans m3;have n4:=((bcell hb3).1 b (off+j * 5+4) blt2).trans m4))
      by_cases ho:o<0 <;> by_cases h6:y1=x1 <;> by_cases h7:x2<=y2
      all_goals
       go_wp2_with fail
       (try (go_quiet (fail);go_wp2))
       first
        | (go_ret;exact ⟨bC (by rw [HZ.out,HNX.out];simp [ho,h6,h7] <;> (intro h;omega)),by first | exact Below.many hw3 _ | exact hw3⟩)
        | (go_roundw;(case rel=>exact ⟨j+1+1,by omega,by go_num,fA (by rw [HN.out,HZ.out,HNX.out];simp [ho,h6,h7]),Below.many hw3 _⟩);(case measure=>simp [intOf];omega))
  have hk1:¬ (k:Int)<(xs.length:Int):=by omega
  have HZ:jC (oO none xs=true):=fA (by rw [<- HR.out,fF (by omega)];cases zDc xs k <;> rfl)
  go_wp2
  go_ret
  exact ⟨bC HZ.out.symm,hw⟩
end Go.Proofs.YtogbpifcmhafkaaGreat
