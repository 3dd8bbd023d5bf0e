/-
 Part PM of the proof.
-/
import Derived.Test.YtogbpifcmhafkaaGreatPG
open Array renaming length_toList->dK
open Go renaming Addr->mB,Calls->iA,Value->uB,World->uA,grownCap_le_maxLen->wV,info_parts->fK,maxLen->fC,run_storeCells_cells->qM,run_underlying->qK,step_append_room->rZ
open Go.Addr renaming add->sM,add_lit->uN
open Go.Builtin renaming append_->kK,clear_->jE,zeroCells->uC
open Go.Instr renaming slice->yF
open Go.Lib renaming run_append_nil_zeros->wX,wpList_append_run->yH,hid->fA
open Go.RowKit renaming Hid->jC
open Go.World renaming ownsRow_made->sD,ownsRow_nil->nB
open List renaming append_assoc->kE,flatten_append->zBN,getElem?_drop->fI,getElem?_eq_getElem->rA,getElem?_take->dI,length_append->kB,length_drop->vD,length_eq_zero_iff->tQ,length_take->sB,mem_cons->pE,mem_of_mem_drop->wG,not_mem_nil->zG,take_append_of_le_length->kD,take_of_length_le->zC,take_take->dH
open Nat renaming add_zero->yJ,le_refl->mA,min_eq_left->wH,min_self->jR,mul_one->vF,zero_add->bD
open Option renaming some->yA
namespace Go.Proofs.YtogbpifcmhafkaaGreat
open Go.RowKit Tryz
open Go.Lib(hid)
set_option linter.unusedVariables false
set_option linter.unusedSimpArgs false
set_option maxRecDepth 100000
set_option maxHeartbeats 16000000
theorem zOl (A : Option mB) (c : Nat) (xs : List Int) (t : Int) (w : uA) (h : yB kG w A c xs) : iA prog 141 #[.slice A xs.length c, t] w fun e w' => e = .returned (.int .i64 (bE (fun y => decide (t = y)) xs 0)) /\ w' = w := by
 have HI:=fA h
 have hmx:=h.max
 obtain ⟨p,hp⟩:∃ p:Int -> Bool,p=fun y=>decide (t=y):=⟨_,rfl⟩
 have HP:jC (∀ y,p y=decide (t=y)):=fA fun y=>by rw [hp]
 rw [<- hp]
 have HR0:jC (bE p (xs.drop 0) 0=bE p xs 0):=fA rfl
 clear h hp
 go_enter func141,ntmps141
 go_wp2
 go_loopw [5,8] (fun v i wr=>∃ (k:Nat),k<=xs.length/\i=.int .i64 (k:Int)/\jC (bE p (xs.drop k) k=bE p xs 0)/\wr=w) (fun _ i _=>xs.length - (intOf i).toNat)
 case atStart=>exact ⟨0,by omega,rfl,HR0,rfl⟩
 case round =>
  clear HR0
  obtain ⟨k,hk,rfl,HR,rfl⟩:=hrel
  have hk0:(0:Int)<=(k:Int):=by omega
  by_cases hlt:k<xs.length
  ·have hk1:(k:Int)<(xs.length:Int):=by omega
   have HS:=fA (iU p xs hlt)
   obtain ⟨b,off,rfl,blt,c0⟩:=uJ HI.out hlt
   generalize (xs[k]'hlt)=x at *
   by_cases hx:t=x
   ·subst hx
    have HZ:jC (bE p xs 0=(k:Int)):=fA (by rw [<- HR.out,HS.out,if_pos (by rw [HP.out];simp)])
    go_wp2
    go_ret
    exact ⟨by rw [HZ.out];rfl,rfl⟩
   ·have HZ:jC (bE p (xs.drop (k+1)) (k+1)=bE p xs 0):=fA (by rw [<- HR.out,HS.out,if_neg (by rw [HP.out];simpa using hx)])
    go_wp2
    go_roundw
    case rel=>exact ⟨k+1,by omega,by go_num,HZ,trivial⟩
    case measure=>simp [intOf];omega
  have hk1:¬ (k:Int)<(xs.length:Int):=by omega
  have HZ:jC (bE p xs 0=-1):=fA (by rw [<- HR.out];exact kR p xs (by omega))
  go_wp2
  go_ret
  exact ⟨by rw [HZ.out];rfl,rfl⟩
theorem pQ (A:Option mB) (c:Nat) (xs:List Int) (t:Int) (w:uA) (h:yB kG w A c xs):iA prog 68 #[.slice A xs.length c,t] w fun e w'=>e=.returned (.bool (ctn xs t))/\w'=w:=by
 have HI:=fA (zOl A c xs t w h)
 unfold ctn eU
 clear h
 generalize bE (fun y=>decide (t=y)) xs 0=v at *
 go_enter func68,ntmps68
 go_wp2_with (go_at_call 141;refine HI.out.mono ?_;rintro e w1 ⟨rfl,hb1⟩;subst hb1)
 go_ret
 exact ⟨rfl,rfl⟩
abbrev zCf:List uB:=[.int .i64 0]
theorem zIP (w:uA) (ty:TypeId) (b o c:Nat) (hc:∀ j,j<1 -> (w.cell? ⟨b,o+j,none⟩).isSome=true) (hf:∀ j,j<1 -> w.frozen? ⟨b,o+j,none⟩=false) :
  (jE #[63] ty #[.slice (yA ⟨b,o,none⟩) 1 c]).run prog w=.ok (.tuple #[]) (w.setCells b o zCf):=by
 have hv:(zeroValue 3).run prog w=.ok (.int .i64 0) w:=by kernel_rfl
 have hst:=qM (P:=prog) b o zCf 0 w (by simpa using hc) (by simpa using hf) (by intro v hv';simp only [zCf,pE,zG,or_false] at hv';subst hv';rfl)
 simp only [yJ] at hst
 have hz:(uC (Value.int .i64 0).cells 1).toList=zCf:=by kernel_rfl
 simp [jE,qK underlying63,hv,hz,hst]
def zKU (b cap n:Nat) (xs:List uB) (w:uA) (en:Ending) (w':uA):Prop:=en=.returned (.slice (yA ⟨b,0,none⟩) n cap)/\w'.ownsRow b 3 1 (.slice (yA ⟨b,0,none⟩) n cap) n xs/\fD [b] w w'
theorem zQp (b cap n i:Nat) (xs:List uB) (w:uA) (ho:w.ownsRow b 3 1 (.slice (yA ⟨b,0,none⟩) n cap) n xs) (h1:∀ u ∈ xs,u.oneCell'=true) (hi:i<n) (hs:n<=1000000) :
  iA prog 341 #[.slice (yA ⟨b,0,none⟩) n cap,(i:Int),.int .i64 ((i:Int)+1)] w (zKU b cap (n - 1) (xs.take (i) ++ xs.drop (i+1)) w):=by
 obtain ⟨hxl,h0 | ⟨g,c',cur,hv,hg,hh,hnc,hcm,hsz,htk⟩⟩:=ho
 ·cases h0.1
 injection hv with e1 _ e3
 injection e1 with e1
 injection e1 with e1
 subst e1 e3
 obtain ⟨news,hnews⟩:∃ news,news=xs.drop (i+1):=⟨_,rfl⟩
 have hlen:news.length=(n - (i+1)):=by rw [hnews,vD,hxl];omega
 have hxs:∀ t u,xs[t]?=yA u -> cur[t]?=yA u:=fun t u hu=>by
  rw [<- htk,dI] at hu
  split at hu
  ·simpa using hu
  ·cases hu
 obtain ⟨A,hA,hsrc⟩:∃ A:mB,(if cap=i+1 then yA (⟨b,0,none⟩:mB) else yA ⟨b,(i+1),none⟩)=yA A/\jC (∀ t u,news[t]?=yA u -> w.drew.cell? (A.add t)=yA u):=by
  by_cases h:cap=i+1
  ·refine ⟨⟨b,0,none⟩,by simp [h],fun t u hu => ?_⟩
   have h0:news.length=0:=by rw [hlen];omega
   rw [tQ.1 h0] at hu
   simp at hu
  ·refine ⟨⟨b,(i+1),none⟩,by simp [h],fun t u hu => ?_⟩
   rw [hnews,fI] at hu
   have:=jA hh ((i+1)+t)
   rw [uN]
   exact this.trans (hxs _ u hu)
 have s1:jC (news.length=(n - (i+1)) * 1):=fA (by rw [vF];exact hlen)
 have s2:jC (∀ u ∈ news,u.oneCell'=true):=fun u hu=>h1 u (by rw [hnews] at hu;exact wG hu)
 have s3:jC (∀ t,t<news.length -> (w.drew.cell? ⟨b,0+i * 1+t,none⟩).isSome=true/\w.drew.frozen? ⟨b,0+i * 1+t,none⟩=false):=by
  intro t ht
  rw [hlen] at ht
  refine ⟨?_,qB hh _⟩
  show (w.cell? ⟨b,0+i * 1+t,none⟩).isSome=true
  rw [jA hh]
  simp
  omega
 obtain ⟨W1,hW1⟩:∃ W1,W1=w.drew.setCells b (0+i * 1) news:=⟨_,rfl⟩
 have hB1:W1.heap[b]?=yA (.cells (zEa cur (i) news) 3):=by
  rw [hW1,bD,vF]
  exact uI news (i) w.drew cur hh
 have hC1:fD [b] w W1:=by rw [hW1];exact rK (by simp) news _ (fD.refl _ _).drew
 have hcl:∀ ty,(jE #[63] ty #[.slice (yA ⟨b,(n - 1),none⟩) 1 (cap - (n - 1))]).run prog W1=.ok (.tuple #[]) (W1.setCells b ((n - 1)) zCf):=fun ty =>
  zIP W1 ty b ((n - 1)) _ (fun j hj=>by rw [jA hB1];simp [jG];omega) (fun j hj=>qB hB1 _)
 have hB2:=uI zCf ((n - 1)) W1 _ hB1
 have hC2:fD [b] w (W1.setCells b ((n - 1)) zCf):=rK (by simp) zCf _ hC1
 have hfin:(W1.setCells b ((n - 1)) zCf).ownsRow b 3 1 (.slice (yA ⟨b,0,none⟩) (n - 1) cap) (n - 1) (xs.take (i) ++ xs.drop (i+1)):=by
  refine ⟨by rw [kB,sB,vD,hxl];omega,.inr ⟨b,cap,_,rfl,mA _,hB2,by omega,hcm,by rw [jG,jG];exact hsz,?_⟩⟩
  rw [dJ _ _ _ (by rw [jG];simp;omega),kE,kD (by rw [sB,dK,jG];omega),dH,vF,jR,dJ _ _ _ (by omega)]
  have e2:(cur.toList.take (i))=xs.take (i):=by rw [<- htk,dH,wH (by omega)]
  rw [e2,<- hnews,kD (by rw [kB,sB,hxl,hlen];omega),zC (by rw [kB,sB,hxl,hlen];omega)]
 have hW:jC (W1=w.drew.setCells b (0+i * 1) news):=hW1
 have HF:=fA hfin
 have HC:=fA hC2
 have hlt:(i:Int)<(i:Int)+1:=by omega
 have hi0:(0:Int)<=(i:Int):=by omega
 have hin:(i:Int)+1<=(n:Int):=by omega
 have hne:((i:Int) == (i:Int)+1)=false:=by simp;omega
 clear hW1 hB1 hC1 hB2 hC2 hfin hh hsz htk hxs hnews hlen hxl
 go_enter func341,ntmps341
 have hs1:∀ W,(yF 63 (.slice (yA ⟨b,0,none⟩) n cap) none (yA (.int .i64 (i:Int))) none).run prog W=.ok (.slice (yA ⟨b,0,none⟩) i cap) W:=fun W=>mP (P:=prog) tN (yA ⟨b,0,none⟩) n cap i (by omega) W
 have hs2:∀ W,(yF 63 (.slice (yA ⟨b,0,none⟩) n cap) (yA (.int .i64 ((i:Int)+1))) none none).run prog W=.ok (.slice (yA A) (n - (i+1)) (cap - (i+1))) W:=fun W=>by
  have:=eK (P:=prog) tN (yA ⟨b,0,none⟩) n cap (i+1) (by omega) W
  rw [show (((i+1:Nat)):Int)=(i:Int)+1 by omega] at this
  rw [this,<- hA]
  unfold cutS
  split <;> simp [sM]
 obtain ⟨i0,hi0',hz0,hz1,hz2⟩:=fK tN.info
 go_upto_region 5 with fail
 go_region_law (refine rZ rfl (.tmp 22) (.tmp 25) 63 rfl 3 i0 1 underlying63 hi0' hz1 b 0 i cap (by rfl) A (n - (i+1)) (cap - (i+1)) news (by rfl) s1.out hsrc.out s2.out (by omega) s3.out ?_;rw [<- hW.out])
 have hcl2:∀ ty,(jE #[63] ty #[.slice (yA ⟨b,(i+(n - (i+1))),none⟩) (n - (i+(n - (i+1)))) (cap - (i+(n - (i+1))))]).run prog W1=.ok (.tuple #[]) (W1.setCells b ((n - 1)) zCf):=fun ty=>by
  have e1:i+(n - (i+1))=n - 1:=by omega
  have e2:n - (n - 1)=1:=by omega
  rw [e1,e2]
  exact hcl ty
 clear hcl
 go_wp2
 have e1:i+(n - (i+1))=n - 1:=by omega
 go_ret
 rw [e1]
 exact ⟨rfl,HF.out,HC.out⟩
abbrev fY:List uB:=[.int .i64 0,.int .i64 0,.int .i64 0,.int .u32 0,.int .i64 0,.int .i64 0,.int .i64 0]
theorem zHm (w:uA) (ty:TypeId) (b o c:Nat) (hc:∀ j,j<7 -> (w.cell? ⟨b,o+j,none⟩).isSome=true) (hf:∀ j,j<7 -> w.frozen? ⟨b,o+j,none⟩=false) :
  (jE #[54] ty #[.slice (yA ⟨b,o,none⟩) 1 c]).run prog w=.ok (.tuple #[]) (w.setCells b o fY):=by
 have hv:(zeroValue 105).run prog w=.ok (.agg #[.int .i64 0,.int .i64 0,.int .i64 0,.int .u32 0,.int .i64 0,.int .i64 0,.int .i64 0]) w:=by kernel_rfl
 have hst:=qM (P:=prog) b o fY 0 w (by simpa using hc) (by simpa using hf) (by intro v hv';simp only [fY,pE,zG,or_false] at hv';rcases hv' with rfl | rfl | rfl | rfl | rfl | rfl | rfl <;> rfl)
 simp only [yJ] at hst
 have hz:(uC (Value.agg #[.int .i64 0,.int .i64 0,.int .i64 0,.int .u32 0,.int .i64 0,.int .i64 0,.int .i64 0]).cells 1).toList=fY:=by kernel_rfl
 simp [jE,qK underlying54,hv,hz,hst]
def zNr (b cap n:Nat) (xs:List uB) (w:uA) (en:Ending) (w':uA):Prop:=en=.returned (.slice (yA ⟨b,0,none⟩) n cap)/\w'.ownsRow b 105 7 (.slice (yA ⟨b,0,none⟩) n cap) n xs/\fD [b] w w'
theorem zNS (b cap n i:Nat) (xs:List uB) (w:uA) (ho:w.ownsRow b 105 7 (.slice (yA ⟨b,0,none⟩) n cap) n xs) (h1:∀ u ∈ xs,u.oneCell'=true) (hi:i<n) (hs:n<=1000000) :
  iA prog 51 #[.slice (yA ⟨b,0,none⟩) n cap,(i:Int),.int .i64 ((i:Int)+1)] w (zNr b cap (n - 1) (xs.take (i * 7) ++ xs.drop ((i+1) * 7)) w):=by
 obtain ⟨hxl,h0 | ⟨g,c',cur,hv,hg,hh,hnc,hcm,hsz,htk⟩⟩:=ho
 ·cases h0.1
 injection hv with e1 _ e3
 injection e1 with e1
 injection e1 with e1
 subst e1 e3
 obtain ⟨news,hnews⟩:∃ news,news=xs.drop ((i+1) * 7):=⟨_,rfl⟩
 have hlen:news.length=(n - (i+1)) * 7:=by rw [hnews,vD,hxl];omega
 have hxs:∀ t u,xs[t]?=yA u -> cur[t]?=yA u:=fun t u hu=>by
  rw [<- htk,dI] at hu
  split at hu
  ·simpa using hu
  ·cases hu
 obtain ⟨A,hA,hsrc⟩:∃ A:mB,(if cap=i+1 then yA (⟨b,0,none⟩:mB) else yA ⟨b,(i+1) * 7,none⟩)=yA A/\jC (∀ t u,news[t]?=yA u -> w.drew.cell? (A.add t)=yA u):=by
  by_cases h:cap=i+1
  ·refine ⟨⟨b,0,none⟩,by simp [h],fun t u hu => ?_⟩
   have h0:news.length=0:=by rw [hlen];omega
   rw [tQ.1 h0] at hu
   simp at hu
  ·refine ⟨⟨b,(i+1) * 7,none⟩,by simp [h],fun t u hu => ?_⟩
   rw [hnews,fI] at hu
   have:=jA hh ((i+1) * 7+t)
   rw [uN]
   exact this.trans (hxs _ u hu)
 have s1:jC (news.length=(n - (i+1)) * 7):=hlen
 have s2:jC (∀ u ∈ news,u.oneCell'=true):=fun u hu=>h1 u (by rw [hnews] at hu;exact wG hu)
 have s3:jC (∀ t,t<news.length -> (w.drew.cell? ⟨b,0+i * 7+t,none⟩).isSome=true/\w.drew.frozen? ⟨b,0+i * 7+t,none⟩=false):=by
  intro t ht
  rw [hlen] at ht
  refine ⟨?_,qB hh _⟩
  show (w.cell? ⟨b,0+i * 7+t,none⟩).isSome=true
  rw [jA hh]
  simp
  omega
 obtain ⟨W1,hW1⟩:∃ W1,W1=w.drew.setCells b (0+i * 7) news:=⟨_,rfl⟩
 have hB1:W1.heap[b]?=yA (.cells (zEa cur (i * 7) news) 105):=by
  rw [hW1,bD]
  exact uI news (i * 7) w.drew cur hh
 have hC1:fD [b] w W1:=by rw [hW1];exact rK (by simp) news _ (fD.refl _ _).drew
 have hcl:∀ ty,(jE #[54] ty #[.slice (yA ⟨b,(n - 1) * 7,none⟩) 1 (cap - (n - 1))]).run prog W1=.ok (.tuple #[]) (W1.setCells b ((n - 1) * 7) fY):=fun ty =>
  zHm W1 ty b ((n - 1) * 7) _ (fun j hj=>by rw [jA hB1];simp [jG];omega) (fun j hj=>qB hB1 _)
 have hB2:=uI fY ((n - 1) * 7) W1 _ hB1
 have hC2:fD [b] w (W1.setCells b ((n - 1) * 7) fY):=rK (by simp) fY _ hC1
 have hfin:(W1.setCells b ((n - 1) * 7) fY).ownsRow b 105 7 (.slice (yA ⟨b,0,none⟩) (n - 1) cap) (n - 1) (xs.take (i * 7) ++ xs.drop ((i+1) * 7)):=by
  refine ⟨by rw [kB,sB,vD,hxl];omega,.inr ⟨b,cap,_,rfl,mA _,hB2,by omega,hcm,by rw [jG,jG];exact hsz,?_⟩⟩
  rw [dJ _ _ _ (by rw [jG];simp;omega),kE,kD (by rw [sB,dK,jG];omega),dH,jR,dJ _ _ _ (by omega)]
  have e2:(cur.toList.take (i * 7))=xs.take (i * 7):=by rw [<- htk,dH,wH (by omega)]
  rw [e2,<- hnews,kD (by rw [kB,sB,hxl,hlen];omega),zC (by rw [kB,sB,hxl,hlen];omega)]
 have hW:jC (W1=w.drew.setCells b (0+i * 7) news):=hW1
 have HF:=fA hfin
 have HC:=fA hC2
 have hlt:(i:Int)<(i:Int)+1:=by omega
 have hi0:(0:Int)<=(i:Int):=by omega
 have hin:(i:Int)+1<=(n:Int):=by omega
 have hne:((i:Int) == (i:Int)+1)=false:=by simp;omega
 clear hW1 hB1 hC1 hB2 hC2 hfin hh hsz htk hxs hnews hlen hxl
 go_enter func51,ntmps51
 have hs1:∀ W,(yF 54 (.slice (yA ⟨b,0,none⟩) n cap) none (yA (.int .i64 (i:Int))) none).run prog W=.ok (.slice (yA ⟨b,0,none⟩) i cap) W:=fun W=>mP (P:=prog) cO (yA ⟨b,0,none⟩) n cap i (by omega) W
 have hs2:∀ W,(yF 54 (.slice (yA ⟨b,0,none⟩) n cap) (yA (.int .i64 ((i:Int)+1))) none none).run prog W=.ok (.slice (yA A) (n - (i+1)) (cap - (i+1))) W:=fun W=>by
  have:=eK (P:=prog) cO (yA ⟨b,0,none⟩) n cap (i+1) (by omega) W
  rw [show (((i+1:Nat)):Int)=(i:Int)+1 by omega] at this
  rw [this,<- hA]
  unfold cutS
  split <;> simp [sM]
 obtain ⟨i0,hi0',hz0,hz1,hz2⟩:=fK cO.info
 go_upto_region 5 with fail
 go_region_law (refine rZ rfl (.tmp 22) (.tmp 25) 54 rfl 105 i0 7 underlying54 hi0' hz1 b 0 i cap (by rfl) A (n - (i+1)) (cap - (i+1)) news (by rfl) s1.out hsrc.out s2.out (by omega) s3.out ?_;rw [<- hW.out])
 have hcl2:∀ ty,(jE #[54] ty #[.slice (yA ⟨b,(i+(n - (i+1))) * 7,none⟩) (n - (i+(n - (i+1)))) (cap - (i+(n - (i+1))))]).run prog W1=.ok (.tuple #[]) (W1.setCells b ((n - 1) * 7) fY):=fun ty=>by
  have e1:i+(n - (i+1))=n - 1:=by omega
  have e2:n - (n - 1)=1:=by omega
  rw [e1,e2]
  exact hcl ty
 clear hcl
 go_wp2
 have e1:i+(n - (i+1))=n - 1:=by omega
 go_ret
 rw [e1]
 exact ⟨rfl,HF.out,HC.out⟩
def zAu {α:Type} (enc:α -> List uB) (w:uA) (B:Nat) (ss:List (List α)) (ps:List (Option mB × Nat)):Prop:=ps.length=ss.length/\B<w.heap.size/\∀ i x a,ss[i]?=yA x -> ps[i]?=yA a -> w.cell? ⟨B,i,none⟩=yA (.slice a.1 x.length a.2)/\yB enc w a.1 a.2 x
theorem zAu.below {α:Type} {enc:α -> List uB} {w w':uA} {B:Nat} {ss:List (List α)} {ps:List (Option mB × Nat)} (h:zAu enc w B ss ps) (hb:Below w.heap.size w w'):zAu enc w' B ss ps :=
 ⟨h.1,Nat.lt_of_lt_of_le h.2.1 hb.size,fun i x a p q=>⟨((bcell hb).1 B i h.2.1).trans (h.2.2 i x a p q).1,(h.2.2 i x a p q).2.below hb⟩⟩
theorem zAu.at_ {α:Type} {enc:α -> List uB} {w:uA} {B:Nat} {ss:List (List α)} {ps:List (Option mB × Nat)} (h:zAu enc w B ss ps) {k:Nat} (hk:k<ss.length):∃ a:Option mB × Nat,w.cell? ⟨B,k,none⟩=yA (.slice a.1 (ss[k]'hk).length a.2)/\yB enc w a.1 a.2 (ss[k]'hk) :=
 ⟨ps[k]'(by rw [h.1];exact hk),h.2.2 k _ _ (rA hk) (rA (by rw [h.1];exact hk))⟩
theorem zCY {α:Type} (ss:List (List α)) {k:Nat} (hk:k<ss.length):(ss.take (k+1)).flatten=(ss.take k).flatten ++ (ss[k]'hk):=by rw [List.take_succ_eq_append_getElem hk,zBN,List.flatten_cons,List.flatten_nil,List.append_nil]
theorem zEB {α:Type} (ss:List (List α)) (k:Nat):(ss.take k).flatten.length<=ss.flatten.length:=by
 have:ss.flatten.length=(ss.take k).flatten.length+(ss.drop k).flatten.length:=by rw [<- kB,<- zBN,List.take_append_drop]
 omega
theorem zJY (n:Nat) (w:uA) (hn:n<=1000000):iA prog 328 #[.slice none 0 0,(n:Int)] w fun e w'=>∃ A c,e=.returned (.slice A 0 c)/\w'.ownsRow w.heap.size 176 5 (.slice A 0 c) 0 []/\Below w.heap.size w w':=by
 have hn0:(0:Int)<=(n:Int):=by omega
 by_cases h0:n=0
 ·subst h0
  go_enter func328,ntmps328
  go_wp2
  go_ret
  exact ⟨none,0,rfl,nB _ _ _ _,xC _⟩
 ·have hp:(0:Int)<(n:Int):=by omega
  obtain ⟨i0,hi0,hz0,hzs,hzb⟩:=fK zAe.info
  obtain ⟨C,hC⟩:∃ C,C=grownCap w n 0 176:=⟨_,rfl⟩
  have hge:n<=C:=by rw [hC];exact grownCap_ge w _ _ _
  have hrz:∀ ty,(kK #[53,3] ty #[.slice none 0 0,(n:Int)]).run prog w=.ok (.slice (yA ⟨w.heap.size,0,none⟩) n C) (w.drew.alloc (.cells (uC _ n ++ uC _ (C - n)) 176)):=fun ty=>by
   rw [hC]
   exact wX w 53 3 ty 176 i0 _ .i64 .i64 underlying53 underlying3 hi0 hz0 n (by omega) (by rw [hzs];omega) (by omega) (by rw [hzb];omega)
  have HC:=fA hC
  have HGE:=fA hge
  clear hC hge
  go_enter func328,ntmps328
  go_wp2_with (at_builtin;refine yH _ rfl _ _ 53 3 rfl _ _ rfl rfl _ _ (hrz _) ?_)
  go_ret
  have hg:=HGE.out
  exact ⟨_,_,rfl,sD w _ C (mA _) (by rw [HC.out];exact wV w n 0 _ (by unfold fC;omega)) (by simp [uC];omega),(wA w _).drew⟩
theorem zLG (B N : Nat) (ss : List (List Le)) (ps : List (Option mB × Nat)) (w : uA) (hN : ss.length = N) (h : zAu vU w B ss ps) (hT : ss.flatten.length <= 1000000) (hN2 : N <= 1000) : iA prog 258 #[.slice (yA ⟨B, 0, none⟩) N N] w (mD 176 5 ss.flatten.length (flat vU ss.flatten) w) := by
 have HI:=fA h
 have hb0:=xC w
 have HG:=fA (fun (n:Nat) W (hn:n<=1000000)=>zJY n W hn)
 have HLE:=fA (fun k=>zEB ss k)
 have HNN:=fA hN
 have HSU:=fA (fun k (hk:k<ss.length)=>zCY ss hk)
 obtain ⟨L,hL⟩:∃ L,L=ss.flatten.length:=⟨_,rfl⟩
 have HL:=fA hL
 rw [<- hL] at hT ⊢
 clear h hN hL
 go_enter func258,ntmps258
 go_wp2
 go_loopw [3,5,11] (fun v3 v5 i wr=>∃ (k n:Nat),k<=N/\v3=.int .i64 (n:Int)/\i=.int .i64 (k:Int)/\jC (n=(ss.take k).flatten.length)/\n<=1000000/\Below w.heap.size w wr) (fun _ _ i _=>N - (intOf i).toNat)
 case atStart=>exact ⟨0,0,by omega,rfl,rfl,fA rfl,by omega,hb0⟩
 case round =>
  clear hb0
  obtain ⟨k,n,hk,rfl,rfl,HX,hn,hw⟩:=hrel
  have hk0:(0:Int)<=(k:Int):=by omega
  have hn0:(0:Int)<=(n:Int):=by omega
  by_cases hlt:k<N
  ·have hk1:(k:Int)<(N:Int):=by omega
   have hlt2:k<ss.length:=by rw [HNN.out];exact hlt
   obtain ⟨⟨a1,a2⟩,d0,d1⟩:=zAu.at_ (HI.out.below hw) hlt2
   have HS:=fA (HSU.out k hlt2)
   have hle:=HLE.out (k+1)
   rw [HS.out,kB,<- HX.out,<- HL.out] at hle
   generalize (ss[k]'hlt2)=x at *
   simp only at d0
   obtain ⟨m,hm⟩:∃ m,m=x.length:=⟨_,rfl⟩
   rw [<- hm] at d0 hle
   have HM:=fA hm
   clear hm d1
   go_wp2
   go_roundw
   case rel=>exact ⟨k+1,n+m,by omega,by go_num,by go_num,fA (by rw [HS.out,kB,<- HX.out,<- HM.out]),by omega,hw⟩
   case measure=>simp [intOf];omega
  have hk1:¬ (k:Int)<(N:Int):=by omega
  have hke:k=N:=by omega
  subst hke
  go_wp2_with (go_at_call 328;refine (HG.out n _ hn).mono ?_;rintro e w1 ⟨A1,c1,rfl,own1,hb1⟩)
  have O1:=fA (oC own1 hw.size)
  have hw1:=hw.trans (hb1.mono hw.size)
  clear own1 hb1 hk1 hk0 hn0
  go_loopw [6,8,27] (fun v6 v8 i wr=>∃ (j n c:Nat) (A:Option mB),j<=k/\v6=.slice A n c/\i=.int .i64 (j:Int)/\jC (n=(ss.take j).flatten.length)/\n<=1000000/\jC (wr.ownsRow w.heap.size 176 5 (.slice A n c) n (flat vU (ss.take j).flatten))/\Below w.heap.size w wr) (fun _ _ i _=>k - (intOf i).toNat)
  case atStart=>exact ⟨0,0,c1,A1,by omega,rfl,rfl,fA rfl,by omega,O1,hw1⟩
  case round =>
   clear hw1 O1 HX hw
   obtain ⟨j,m,c,A,hj,rfl,rfl,HX,hm,HO,hw⟩:=hrel
   have hj0:(0:Int)<=(j:Int):=by omega
   by_cases hlt:j<k
   ·have hj1:(j:Int)<(k:Int):=by omega
    have hlt2:j<ss.length:=by rw [HNN.out];exact hlt
    obtain ⟨⟨a1,a2⟩,d0,d1⟩:=zAu.at_ (HI.out.below hw) hlt2
    have HS:=fA (HSU.out j hlt2)
    have hle:=HLE.out (j+1)
    rw [HS.out,kB,<- HX.out,<- HL.out] at hle
    generalize (ss[j]'hlt2)=x at *
    simp only at d0 d1
    have D1:=fA d1
    have HXL:=fA (jD zEK x)
    obtain ⟨q,hq⟩:∃ q,q=x.length:=⟨_,rfl⟩
    rw [<- hq] at d0 hle HXL
    have HM:=fA hq
    clear hq d1
    go_wp2_with (at_builtin;refine yC rfl (.tmp 31) (.tmp 32) rfl zAe w.heap.size (.slice A m c) m _ (by rfl) HO.out a1 q a2 (flat vU x) (by rfl) HXL.out D1.out.row (jF zHc x) (by unfold fC;omega) (by omega) hw.size (fun h=>by rw [HM.out];exact D1.out.none_ h) ?_;intro A3 c3 w3 hown hg hat)
    have hb3:=Below.appended hw HO.out hg hw.size (mA _)
    go_roundw
    case rel=>exact ⟨j+1,m+q,c3,A3,by omega,rfl,by go_num,fA (by rw [HS.out,kB,<- HX.out,<- HM.out]),by omega,fA (by rw [HS.out,uD];exact hown),hb3⟩
    case measure=>simp [intOf];omega
   have hj1:¬ (j:Int)<(k:Int):=by omega
   have hje:j=k:=by omega
   subst hje
   go_wp2
   go_ret
   have hX:=HX.out
   have hO:=HO.out
   rw [zC (by rw [HNN.out];exact mA _)] at hX hO
   rw [HL.out,<- hX]
   exact ⟨A,c,rfl,hO,hw⟩
theorem zLX (n:Nat) (w:uA) (hn:n<=1000000):iA prog 245 #[.slice none 0 0,(n:Int)] w fun e w'=>∃ A c,e=.returned (.slice A 0 c)/\w'.ownsRow w.heap.size 3 1 (.slice A 0 c) 0 []/\Below w.heap.size w w':=by
 have hn0:(0:Int)<=(n:Int):=by omega
 by_cases h0:n=0
 ·subst h0
  go_enter func245,ntmps245
  go_wp2
  go_ret
  exact ⟨none,0,rfl,nB _ _ _ _,xC _⟩
 ·have hp:(0:Int)<(n:Int):=by omega
  obtain ⟨i0,hi0,hz0,hzs,hzb⟩:=fK tN.info
  obtain ⟨C,hC⟩:∃ C,C=grownCap w n 0 3:=⟨_,rfl⟩
  have hge:n<=C:=by rw [hC];exact grownCap_ge w _ _ _
  have hrz:∀ ty,(kK #[63,3] ty #[.slice none 0 0,(n:Int)]).run prog w=.ok (.slice (yA ⟨w.heap.size,0,none⟩) n C) (w.drew.alloc (.cells (uC _ n ++ uC _ (C - n)) 3)):=fun ty=>by
   rw [hC]
   exact wX w 63 3 ty 3 i0 _ .i64 .i64 underlying63 underlying3 hi0 hz0 n (by omega) (by rw [hzs];omega) (by omega) (by rw [hzb];omega)
  have HC:=fA hC
  have HGE:=fA hge
  clear hC hge
  go_enter func245,ntmps245
  go_wp2_with (at_builtin;refine yH _ rfl _ _ 63 3 rfl _ _ rfl rfl _ _ (hrz _) ?_)
  go_ret
  have hg:=HGE.out
  exact ⟨_,_,rfl,sD w _ C (mA _) (by rw [HC.out];exact wV w n 0 _ (by unfold fC;omega)) (by simp [uC];omega),(wA w _).drew⟩
theorem zNG (B N : Nat) (ss : List (List Int)) (ps : List (Option mB × Nat)) (w : uA) (hN : ss.length = N) (h : zAu kG w B ss ps) (hT : ss.flatten.length <= 1000000) (hN2 : N <= 1000) : iA prog 180 #[.slice (yA ⟨B, 0, none⟩) N N] w (mD 3 1 ss.flatten.length (flat kG ss.flatten) w) := by
 have HI:=fA h
 have hb0:=xC w
 have HG:=fA (fun (n:Nat) W (hn:n<=1000000)=>zLX n W hn)
 have HLE:=fA (fun k=>zEB ss k)
 have HNN:=fA hN
 have HSU:=fA (fun k (hk:k<ss.length)=>zCY ss hk)
 obtain ⟨L,hL⟩:∃ L,L=ss.flatten.length:=⟨_,rfl⟩
 have HL:=fA hL
 rw [<- hL] at hT ⊢
 clear h hN hL
 go_enter func180,ntmps180
 go_wp2
 go_loopw [3,5,11] (fun v3 v5 i wr=>∃ (k n:Nat),k<=N/\v3=.int .i64 (n:Int)/\i=.int .i64 (k:Int)/\jC (n=(ss.take k).flatten.length)/\n<=1000000/\Below w.heap.size w wr) (fun _ _ i _=>N - (intOf i).toNat)
 case atStart=>exact ⟨0,0,by omega,rfl,rfl,fA rfl,by omega,hb0⟩
 case round =>
  clear hb0
  obtain ⟨k,n,hk,rfl,rfl,HX,hn,hw⟩:=hrel
  have hk0:(0:Int)<=(k:Int):=by omega
  have hn0:(0:Int)<=(n:Int):=by omega
  by_cases hlt:k<N
  ·have hk1:(k:Int)<(N:Int):=by omega
   have hlt2:k<ss.length:=by rw [HNN.out];exact hlt
   obtain ⟨⟨a1,a2⟩,d0,d1⟩:=zAu.at_ (HI.out.below hw) hlt2
   have HS:=fA (HSU.out k hlt2)
   have hle:=HLE.out (k+1)
   rw [HS.out,kB,<- HX.out,<- HL.out] at hle
   generalize (ss[k]'hlt2)=x at *
   simp only at d0
   obtain ⟨m,hm⟩:∃ m,m=x.length:=⟨_,rfl⟩
   rw [<- hm] at d0 hle
   have HM:=fA hm
   clear hm d1
   go_wp2
   go_roundw
   case rel=>exact ⟨k+1,n+m,by omega,by go_num,by go_num,fA (by rw [HS.out,kB,<- HX.out,<- HM.out]),by omega,hw⟩
   case measure=>simp [intOf];omega
  have hk1:¬ (k:Int)<(N:Int):=by omega
  have hke:k=N:=by omega
  subst hke
  go_wp2_with (go_at_call 245;refine (HG.out n _ hn).mono ?_;rintro e w1 ⟨A1,c1,rfl,own1,hb1⟩)
  have O1:=fA (oC own1 hw.size)
  have hw1:=hw.trans (hb1.mono hw.size)
  clear own1 hb1 hk1 hk0 hn0
  go_loopw [6,8,27] (fun v6 v8 i wr=>∃ (j n c:Nat) (A:Option mB),j<=k/\v6=.slice A n c/\i=.int .i64 (j:Int)/\jC (n=(ss.take j).flatten.length)/\n<=1000000/\jC (wr.ownsRow w.heap.size 3 1 (.slice A n c) n (flat kG (ss.take j).flatten))/\Below w.heap.size w wr) (fun _ _ i _=>k - (intOf i).toNat)
  case atStart=>exact ⟨0,0,c1,A1,by omega,rfl,rfl,fA rfl,by omega,O1,hw1⟩
  case round =>
   clear hw1 O1 HX hw
   obtain ⟨j,m,c,A,hj,rfl,rfl,HX,hm,HO,hw⟩:=hrel
   have hj0:(0:Int)<=(j:Int):=by omega
   by_cases hlt:j<k
   ·have hj1:(j:Int)<(k:Int):=by omega
    have hlt2:j<ss.length:=by rw [HNN.out];exact hlt
    obtain ⟨⟨a1,a2⟩,d0,d1⟩:=zAu.at_ (HI.out.below hw) hlt2
    have HS:=fA (HSU.out j hlt2)
    have hle:=HLE.out (j+1)
    rw [HS.out,kB,<- HX.out,<- HL.out] at hle
    generalize (ss[j]'hlt2)=x at *
    simp only at d0 d1
    have D1:=fA d1
    have HXL:=fA (jD dN x)
    obtain ⟨q,hq⟩:∃ q,q=x.length:=⟨_,rfl⟩
    rw [<- hq] at d0 hle HXL
    have HM:=fA hq
    clear hq d1
    go_wp2_with (at_builtin;refine yC rfl (.tmp 31) (.tmp 32) rfl tN w.heap.size (.slice A m c) m _ (by rfl) HO.out a1 q a2 (flat kG x) (by rfl) HXL.out D1.out.row (jF cV x) (by unfold fC;omega) (by omega) hw.size (fun h=>by rw [HM.out];exact D1.out.none_ h) ?_;intro A3 c3 w3 hown hg hat)
    have hb3:=Below.appended hw HO.out hg hw.size (mA _)
    go_roundw
    case rel=>exact ⟨j+1,m+q,c3,A3,by omega,rfl,by go_num,fA (by rw [HS.out,kB,<- HX.out,<- HM.out]),by omega,fA (by rw [HS.out,uD];exact hown),hb3⟩
    case measure=>simp [intOf];omega
   have hj1:¬ (j:Int)<(k:Int):=by omega
   have hje:j=k:=by omega
   subst hje
   go_wp2
   go_ret
   have hX:=HX.out
   have hO:=HO.out
   rw [zC (by rw [HNN.out];exact mA _)] at hX hO
   rw [HL.out,<- hX]
   exact ⟨A,c,rfl,hO,hw⟩
end Go.Proofs.YtogbpifcmhafkaaGreat
