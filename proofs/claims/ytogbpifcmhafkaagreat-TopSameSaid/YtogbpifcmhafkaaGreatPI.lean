/-
 Part PI of the proof.
-/
import Derived.Test.YtogbpifcmhafkaaGreatPH
open Array renaming toList_ofFn->tW
open Go renaming Calls->iA,Value->uB,World->uA,callFunc->xG,maxLen->fC
open Go.Addr renaming add->sM
open Go.Builtin renaming clear_->jE,zeroCells->uC
open Go.Instr renaming slice->yF
open Go.Lib renaming hid->fA
open Go.Value renaming agg->vE,cells->lK,int->dD
open List renaming getElem?_eq_getElem->rA,getElem?_map->zJ,getElem_ofFn->cW,mem_iff_getElem->rO
open Nat renaming le_trans->pA,lt_of_lt_of_le->tA,mod_lt->tO,mul_one->vF,zero_add->bD
open Option renaming some->yA
namespace Go.Proofs.YtogbpifcmhafkaaGreat
open Go.RowKit Tryz
open Go.Lib(hid)
set_option linter.unusedVariables false
set_option linter.unusedSimpArgs false
set_option maxRecDepth 100000
set_option maxHeartbeats 16000000
def zAS (n m:Int):Bool:=decide (1<=n) && decide (n<=m)
theorem eY (n m:Int) (w:uA):iA prog 47 #[n,m] w fun e w'=>e=.returned (.bool (zAS n m))/\w'=w:=by
 unfold zAS
 by_cases h:1<=n
 all_goals (
  go_enter func47,ntmps47
  go_wp2
  go_ret
  exact ⟨bC (by simp [h];try omega),rfl⟩)
abbrev Ru:=Int × Int × Int × Int × Int × Int
def vT (r:Ru):Bool:=zAS r.1 1048576 && (zAS r.2.2.2.2.1 1048576 && (zAS r.2.1 64 && (zAS r.2.2.1 64 && (zAS r.2.2.2.1 8 && zAS r.2.2.2.2.2 16))))
theorem zGh (x1 x2 x3 x4 x5 x6:Int) (w:uA):iA prog 15 #[.agg #[x1,x2,x3,x4,x5,x6]] w fun e w'=>e=.returned (.bool (vT (x1,x2,x3,x4,x5,x6)))/\Below w.heap.size w w':=by
 have hal:=wA w (.cells #[x1,x2,x3,x4,x5,x6] 23)
 have H1:=fA (fun W=>eY x1 1048576 W)
 have H5:=fA (fun W=>eY x5 1048576 W)
 have H2:=fA (fun W=>eY x2 64 W)
 have H3:=fA (fun W=>eY x3 64 W)
 have H4:=fA (fun W=>eY x4 8 W)
 have H6:=fA (fun W=>eY x6 16 W)
 unfold vT
 simp only
 generalize zAS x1 1048576=b1 at *
 generalize zAS x5 1048576=b5 at *
 generalize zAS x2 64=b2 at *
 generalize zAS x3 64=b3 at *
 generalize zAS x4 8=b4 at *
 generalize zAS x6 16=b6 at *
 cases b1
 rotate_left 1
 cases b5
 rotate_left 1
 cases b2
 rotate_left 1
 cases b3
 rotate_left 1
 cases b4
 all_goals (
  go_enter func15,ntmps15
  go_wp2_with (first
   | (go_at_call 47;(with_reducible refine (H1.out _).mono ?_);rintro e wx ⟨rfl,hwx⟩;subst hwx)
   | (go_at_call 47;(with_reducible refine (H5.out _).mono ?_);rintro e wx ⟨rfl,hwx⟩;subst hwx)
   | (go_at_call 47;(with_reducible refine (H2.out _).mono ?_);rintro e wx ⟨rfl,hwx⟩;subst hwx)
   | (go_at_call 47;(with_reducible refine (H3.out _).mono ?_);rintro e wx ⟨rfl,hwx⟩;subst hwx)
   | (go_at_call 47;(with_reducible refine (H4.out _).mono ?_);rintro e wx ⟨rfl,hwx⟩;subst hwx)
   | (go_at_call 47;(with_reducible refine (H6.out _).mono ?_);rintro e wx ⟨rfl,hwx⟩;subst hwx))
  go_ret
  exact ⟨bC (by simp),hal⟩)
def toldP (t n:Int) (o:Od):Bool:=decide (o.2.1=t) && decide (o.2.2.2.2.2.1=n)
theorem zFO (A : Option Addr) (c : Nat) (xs : List Int) (base gf : Nat) (lb : Array uB) (eg : ∀ args w, (xG gf args).run prog w = .ok (.enter gf args) w) (p : Int -> Bool) (w : uA) (hbase : base <= w.heap.size) (ho : w.ownsRow base 3 1 (.slice A xs.length c) xs.length (flat kG xs)) (hmx : xs.length <= 1000000) (hp : ∀ x ∈ xs, ∀ W, Below base w W -> iA prog gf (#[.int .i64 x] ++ lb) W fun e w' => e = .returned (.bool (p x)) /\ Below W.heap.size W w') : iA prog 57 #[.slice A xs.length c, .func (.func gf) #[] lb] w (wY kG base 3 1 A c (nE p xs) w) := by
 have HI:=fA (zDt A c xs gf lb eg p w (yB.of_own ho hmx) (fun x hx W hW=>hp x hx W (hW.mono hbase)))
 rcases fM p xs 0 with ⟨e,hall⟩ | ⟨k0,hk0,e,ht,hall⟩
 ·rw [e] at HI
  rw [xZ hall]
  have HO:=fA ho
  clear ho e hall hp
  go_enter func57,ntmps57
  go_wp2_with (go_at_call 119;refine HI.out.mono ?_;rintro e w1 ⟨rfl,hb1⟩)
  go_ret
  exact ⟨rfl,jB HO.out hb1,hb1.mono hbase⟩
 ·rw [bD] at e
  rw [e] at HI
  obtain ⟨g,rfl⟩:∃ g,A=yA ⟨g,0,none⟩:=by
   obtain ⟨g,c',hv,_⟩:=ho.form (by omega)
   injection hv with e
   exact ⟨g,e⟩
  have hgo:=qC ho g (by simp [zB])
  have hgb:=hgo.1
  have hgl:=hgo.2
  have hnc:=fP ho
  have HO:=fA ho
  have HK:=fA (Kept.start hk0 ht hall)
  have HP:=fA hp
  have hcm:c<=9223372036854775807:=by
   obtain ⟨_,h0 | ⟨g',c',cur,hv,_,_,_,hcm,_⟩⟩:=ho
   ·cases h0.1
   ·injection hv with _ _ e3;subst e3;unfold fC at hcm;omega
  clear ho e hall hp ht hgo
  go_enter func57,ntmps57
  go_wp2_with (go_at_call 119;refine HI.out.mono ?_;rintro e w1 ⟨rfl,hb1⟩;have HO1:=fA (jB HO.out hb1);have hw1:=hb1.mono hbase)
  go_loopw [5,6,7] (fun i j v wr=>∃ (a b:Nat) (cs:List Int),i=.int .i64 (a:Int)/\j=.int .i64 (b:Int)/\Hid (Kept p xs cs a b)/\Hid (wr.ownsRow base 3 1 (.slice (yA ⟨g,0,none⟩) xs.length c) xs.length (flat kG cs))/\Below base w wr/\g<wr.heap.size) (fun _ j _ _=>xs.length - (intOf j).toNat)
  case atStart=>exact ⟨k0,k0+1,xs,rfl,by go_num,HK,HO1,hw1,tA hgl hb1.size⟩
  case round =>
   clear hw1 hb1 HO1 HK
   obtain ⟨a,b,cs,rfl,rfl,HK,HO1,hw,hgw⟩:=hrel
   have hab:=HK.out.lt
   have hbl:=HK.out.le
   have hcl:=HK.out.len
   have ha0:(0:Int)<=(a:Int):=by omega
   have hb0:(0:Int)<=(b:Int):=by omega
   have hbw:=hbase
   by_cases hlt:b<xs.length
   ·have hk1:(b:Int)<(xs.length:Int):=by omega
    have hal:(a:Int)<(xs.length:Int):=by omega
    have hat:=HK.out.at_ hlt
    have c0:wr.cell? ⟨g,b,none⟩=yA (.int .i64 (xs[b]'hlt)):=by
     have:=mH HO1.out (i:=b) (u:=.int .i64 (xs[b]'hlt)) (by rw [uO,zJ,rA (by omega),hat];rfl)
     exact this
    have ca:wr.cell? ⟨g,a,none⟩=yA (.int .i64 (cs[a]'(by omega))):=mH HO1.out (by rw [uO,zJ,rA (by omega)];rfl)
    have fa:=mG HO1.out a
    have HKT:=fA (fun ht=>HK.out.skip hlt ht)
    have HKF:=fA (fun ht=>HK.out.keep hlt ht)
    have HC:=fA (HP.out _ (List.getElem_mem hlt) wr hw)
    generalize (xs[b]'hlt)=x at *
    generalize (cs[a]'(by omega))=old at *
    generalize p x=q at *
    clear hat
    cases q with
    | true =>
     have HKT2:=fA (HKT.out rfl)
     go_wp2_with (go_at_fn gf;refine HC.out.mono ?_;rintro e w2 ⟨rfl,hb2⟩;have hw2:=hw.trans (hb2.mono (pA hbw hw.size)))
     go_roundw
     case rel=>exact ⟨_,_,_,_,_,_,_,_,_,_,_,_,_,_,_,_,_,_,_,_,_,_,_,⟨a,b+1,cs,rfl,by go_num,HKT2,fA (jB HO1.out hb2),hw2,tA hgw hb2.size⟩,rfl⟩
     case measure=>simp [intOf];omega
    | false =>
     have HKF2:=fA (HKF.out rfl)
     go_wp2_with (go_at_fn gf;refine HC.out.mono ?_;rintro e w2 ⟨rfl,hb2⟩;have hw2:=hw.trans (hb2.mono (pA hbw hw.size));have ca2:=((bcell hb2).1 g a hgw).trans ca;have fa2:=((bcell hb2).2 g a hgw).trans fa)
     have HN:=mR dN (jB HO1.out hb2) hcl (i:=a) (by omega) x
     rw [vF] at HN
     go_roundw
     case rel=>exact ⟨_,_,_,_,_,_,_,_,_,_,_,_,_,_,_,_,_,_,_,_,_,_,_,⟨a+1,b+1,cs.set a x,by go_num,by go_num,HKF2,fA HN,hw2.setCell (p:=⟨g,a,none⟩) hgb _,by simpa using tA hgw hb2.size⟩,rfl⟩
     case measure=>simp [intOf];omega
   ·have hk1:¬ (b:Int)<(xs.length:Int):=by omega
    have hbe:b=xs.length:=by omega
    subst hbe
    obtain ⟨hou1,hou2⟩:=HK.out.out
    have hac:a<=xs.length:=by omega
    have hs1:∀ W,(yF 63 (.slice (yA ⟨g,0,none⟩) xs.length c) (yA (.int .i64 (a:Int))) none none).run prog W=.ok (.slice (yA ⟨g,a,none⟩) (xs.length - a) (c - a)) W:=fun W=>by
     have:=eK (P:=prog) tN (yA ⟨g,0,none⟩) xs.length c a (by omega) W
     rw [this]
     unfold cutS
     rw [if_neg (by omega)]
     simp [sM]
     try omega
    have hs2:∀ W,(yF 63 (.slice (yA ⟨g,0,none⟩) xs.length c) none (yA (.int .i64 (a:Int))) none).run prog W=.ok (.slice (yA ⟨g,0,none⟩) a c) W:=fun W=>mP (P:=prog) tN (yA ⟨g,0,none⟩) xs.length c a (by omega) W
    obtain ⟨zs,hzs⟩:∃ zs,zs=(uC (dD .i64 0).cells (xs.length - a)).toList:=⟨_,rfl⟩
    have hzl:zs.length=(xs.length - a) * 1:=by rw [hzs];simp [uC,lK]
    have hcell:∀ j,j<xs.length -> (wr.cell? ⟨g,j,none⟩).isSome=true:=fun j hj=>by
     have:=mH HO1.out (i:=j) (u:=.int .i64 (cs[j]'(by omega))) (by rw [uO,zJ,rA (by omega)];rfl)
     rw [this];rfl
    have hcl2:∀ ty,(jE #[63] ty #[.slice (yA ⟨g,a,none⟩) (xs.length - a) (c - a)]).run prog wr=.ok (.tuple #[]) (wr.setCells g a zs):=fun ty=>by
     rw [hzs]
     exact fX wr 1 ty g a _ _ tN.under (by kernel_rfl) rfl (by rw [<- hzs];intro u hu;rw [hzs] at hu;obtain ⟨_,_,rfl⟩:=rO.1 hu;simp [uC,lK,Nat.mod_one];rfl) (by rw [<- hzs];exact hzl) (by omega) (fun j hj=>hcell _ (by omega)) (fun j hj=>mG HO1.out _)
    have HF:=fA (bZ dN HO1.out hcl (i:=a) (by omega) zs (by omega))
    rw [vF,hou1] at HF
    have HB:=fA (below_setCells hgb zs a hw)
    have HE:=fA hou2
    clear hzl hzs hcell HI hou1 hou2 HP
    go_wp2
    go_ret
    have HE':=HE.out.symm
    refine ⟨by rw [HE'];rfl,?_,HB.out⟩
    rw [HE']
    exact HF.out
theorem jV (A:Option Addr) (c:Nat) (xs:List Int) (base gf:Nat) (lb:Array uB) (eg:∀ args w,(xG gf args).run prog w=.ok (.enter gf args) w) (p:Int -> Bool) (w:uA) (hbase:base<=w.heap.size) (ho:w.ownsRow base 3 1 (.slice A xs.length c) xs.length (flat kG xs)) (hmx:xs.length<=1000000) (hp:xQ base gf lb (fun x:Int=>dD .i64 x) p w):iA prog 57 #[.slice A xs.length c,.func (.func gf) #[] lb] w (wY kG base 3 1 A c (nE p xs) w):=zFO A c xs base gf lb eg p w hbase ho hmx fun x _ W hW=>hp W x hW
theorem zJk (n:Nat):∀ u ∈ (uC (vE #[.int .i64 0,.int .i64 0,.int .u32 0,.bool false,.bool false]).cells n).toList,u.oneCell'=true:=fun u hu=>by
 obtain ⟨i,hi,rfl⟩:=rO.1 hu
 simp only [uC,lK,tW,cW]
 have:i % 5<5:=tO _ (by decide)
 simp
 generalize i % 5=j at *
 match j,this with
 | 0,_=>rfl
 | 1,_=>rfl
 | 2,_=>rfl
 | 3,_=>rfl
 | 4,_=>rfl
theorem zJP (A : Option Addr) (c : Nat) (xs : List Rp) (base gf : Nat) (lb : Array uB) (eg : ∀ args w, (xG gf args).run prog w = .ok (.enter gf args) w) (p : Rp -> Bool) (w : uA) (hbase : base <= w.heap.size) (ho : w.ownsRow base 124 5 (.slice A xs.length c) xs.length (flat fJ xs)) (hmx : xs.length <= 1000000) (hp : xQ base gf lb (fun x : Rp => vE (fJ x).toArray) p w) : iA prog 292 #[.slice A xs.length c, .func (.func gf) #[] lb] w (wY fJ base 124 5 A c (nE p xs) w) := by
 have HI:=fA (zEI A c xs gf lb eg p w (yB.of_own ho hmx) (hp.at_ hbase))
 rcases fM p xs 0 with ⟨e,hall⟩ | ⟨k0,hk0,e,ht,hall⟩
 ·rw [e] at HI
  rw [xZ hall]
  have HO:=fA ho
  clear ho e hall hp
  go_enter func292,ntmps292
  go_wp2_with (go_at_call 187;refine HI.out.mono ?_;rintro e w1 ⟨rfl,hb1⟩)
  go_ret
  exact ⟨rfl,jB HO.out hb1,hb1.mono hbase⟩
 ·rw [bD] at e
  rw [e] at HI
  obtain ⟨g,rfl⟩:∃ g,A=yA ⟨g,0,none⟩:=by
   obtain ⟨g,c',hv,_⟩:=ho.form (by omega)
   injection hv with e
   exact ⟨g,e⟩
  have hgo:=qC ho g (by simp [zB])
  have hgb:=hgo.1
  have hgl:=hgo.2
  have hnc:=fP ho
  have HO:=fA ho
  have HK:=fA (Kept.start hk0 ht hall)
  have HP:=fA hp
  have hcm:c<=9223372036854775807:=by
   obtain ⟨_,h0 | ⟨g',c',cur,hv,_,_,_,hcm,_⟩⟩:=ho
   ·cases h0.1
   ·injection hv with _ _ e3;subst e3;unfold fC at hcm;omega
  clear ho e hall hp ht hgo
  go_enter func292,ntmps292
  go_wp2_with (go_at_call 187;refine HI.out.mono ?_;rintro e w1 ⟨rfl,hb1⟩;have HO1:=fA (jB HO.out hb1);have hw1:=hb1.mono hbase)
  go_loopw [5,6,7] (fun i j v wr=>∃ (a b:Nat) (cs:List Rp),i=.int .i64 (a:Int)/\j=.int .i64 (b:Int)/\Hid (Kept p xs cs a b)/\Hid (wr.ownsRow base 124 5 (.slice (yA ⟨g,0,none⟩) xs.length c) xs.length (flat fJ cs))/\Below base w wr/\g<wr.heap.size) (fun _ j _ _=>xs.length - (intOf j).toNat)
  case atStart=>exact ⟨k0,k0+1,xs,rfl,by go_num,HK,HO1,hw1,tA hgl hb1.size⟩
  case round =>
   clear hw1 hb1 HO1 HK
   obtain ⟨a,b,cs,rfl,rfl,HK,HO1,hw,hgw⟩:=hrel
   have hab:=HK.out.lt
   have hbl:=HK.out.le
   have hcl:=HK.out.len
   have ha0:(0:Int)<=(a:Int):=by omega
   have hb0:(0:Int)<=(b:Int):=by omega
   have hbw:=hbase
   by_cases hlt:b<xs.length
   ·have hk1:(b:Int)<(xs.length:Int):=by omega
    have hal:(a:Int)<(xs.length:Int):=by omega
    have hat:=HK.out.at_ hlt
    have qb:∀ j u,j<5 -> (fJ (xs[b]'hlt))[j]?=yA u -> wr.cell? ⟨g,b * 5+j,none⟩=yA u:=fun j u hj hu=>mH HO1.out (by rw [tK iO (by omega) hj,hat];exact hu)
    have qa:∀ j u,j<5 -> (fJ (cs[a]'(by omega)))[j]?=yA u -> wr.cell? ⟨g,a * 5+j,none⟩=yA u:=fun j u hj hu=>mH HO1.out (by rw [tK iO (by omega) hj];exact hu)
    have fa:=mG HO1.out
    have HKT:=fA (fun ht=>HK.out.skip hlt ht)
    have HKF:=fA (fun ht=>HK.out.keep hlt ht)
    generalize (xs[b]'hlt)=x at *
    generalize (cs[a]'(by omega))=old at *
    obtain ⟨x1,x2,x3,x4,x5⟩:=x
    obtain ⟨y1,y2,y3,y4,y5⟩:=old
    have c0:wr.cell? ⟨g,b * 5,none⟩=yA (.int .i64 x1):=qb 0 _ (by decide) rfl
    have c1:wr.cell? ⟨g,b * 5+1,none⟩=yA (.int .i64 x2):=qb 1 _ (by decide) rfl
    have c2:wr.cell? ⟨g,b * 5+2,none⟩=yA (.int .u32 x3):=qb 2 _ (by decide) rfl
    have c3:wr.cell? ⟨g,b * 5+3,none⟩=yA (.bool x4):=qb 3 _ (by decide) rfl
    have c4:wr.cell? ⟨g,b * 5+4,none⟩=yA (.bool x5):=qb 4 _ (by decide) rfl
    have ca0:wr.cell? ⟨g,a * 5,none⟩=yA (.int .i64 y1):=qa 0 _ (by decide) rfl
    have ca1:wr.cell? ⟨g,a * 5+1,none⟩=yA (.int .i64 y2):=qa 1 _ (by decide) rfl
    have ca2:wr.cell? ⟨g,a * 5+2,none⟩=yA (.int .u32 y3):=qa 2 _ (by decide) rfl
    have ca3:wr.cell? ⟨g,a * 5+3,none⟩=yA (.bool y4):=qa 3 _ (by decide) rfl
    have ca4:wr.cell? ⟨g,a * 5+4,none⟩=yA (.bool y5):=qa 4 _ (by decide) rfl
    have HFA:=fA fa
    clear qb qa hat fa
    have hal:=wA wr (.cells #[x1,x2,.int .u32 x3,.bool x4,.bool x5] 124)
    have gX:=rB wr (.cells #[x1,x2,.int .u32 x3,.bool x4,.bool x5] 124)
    have HC:=fA (HP.out (wr.alloc (.cells #[x1,x2,.int .u32 x3,.bool x4,.bool x5] 124)) (x1,x2,x3,x4,x5) (hw.trans (hal.mono (pA hbw hw.size))))
    have HC2:Hid (iA prog gf (#[.agg #[x1,x2,.int .u32 x3,.bool x4,.bool x5]] ++ lb) (wr.alloc (.cells #[x1,x2,.int .u32 x3,.bool x4,.bool x5] 124)) fun e w'=>e=.returned (.bool (p (x1,x2,x3,x4,x5)))/\Below (wr.alloc (.cells #[x1,x2,.int .u32 x3,.bool x4,.bool x5] 124)).heap.size (wr.alloc (.cells #[x1,x2,.int .u32 x3,.bool x4,.bool x5] 124)) w'):=HC
    clear HC
    generalize p (x1,x2,x3,x4,x5)=q at *
    cases q with
    | true =>
     have HKT2:=fA (HKT.out rfl)
     go_wp2_with (go_at_fn gf;refine HC2.out.mono ?_;rintro e w2 ⟨rfl,hb2'⟩;have hb2:=hal.trans (hb2'.mono hal.size);have hw2:=hw.trans (hb2.mono (pA hbw hw.size)))
     go_roundw
     case rel=>exact ⟨_,_,_,_,_,_,_,_,_,_,_,_,_,_,_,_,_,_,_,_,_,_,_,⟨a,b+1,cs,rfl,by go_num,HKT2,fA (jB HO1.out hb2),hw2,tA hgw hb2.size⟩,rfl⟩
     case measure=>simp [intOf];omega
    | false =>
     have HKF2:=fA (HKF.out rfl)
     go_wp2_with (go_at_fn gf;refine HC2.out.mono ?_;rintro e w2 ⟨rfl,hb2'⟩;have hb2:=hal.trans (hb2'.mono hal.size);have hw2:=hw.trans (hb2.mono (pA hbw hw.size));have g2:=kA hb2' gX;have e0:w2.cell? ⟨wr.heap.size,0,none⟩=yA (.int .i64 x1):=jA g2 0;have e1:w2.cell? ⟨wr.heap.size,1,none⟩=yA (.int .i64 x2):=jA g2 1;have e2:w2.cell? ⟨wr.heap.size,2,none⟩=yA (.int .u32 x3):=jA g2 2;have e3:w2.cell? ⟨wr.heap.size,3,none⟩=yA (.bool x4):=jA g2 3;have e4:w2.cell? ⟨wr.heap.size,4,none⟩=yA (.bool x5):=jA g2 4;have da0:=((bcell hb2).1 g (a * 5) hgw).trans ca0;have df0:=((bcell hb2).2 g (a * 5) hgw).trans (HFA.out (a * 5));have da1:=((bcell hb2).1 g (a * 5+1) hgw).trans ca1;have df1:=((bcell hb2).2 g (a * 5+1) hgw).trans (HFA.out (a * 5+1));have da2:=((bcell hb2).1 g (a * 5+2) hgw).trans ca2;have df2:=((bcell hb2).2 g (a * 5+2) hgw).trans (HFA.out (a * 5+2));have da3:=((bcell hb2).1 g (a * 5+3) hgw).trans ca3;have df3:=((bcell hb2).2 g (a * 5+3) hgw).trans (HFA.out (a * 5+3));have da4:=((bcell hb2).1 g (a * 5+4) hgw).trans ca4;have df4:=((bcell hb2).2 g (a * 5+4) hgw).trans (HFA.out (a * 5+4));have g2lt:=eB g2)
     have HN:=mR iO (jB HO1.out hb2) hcl (i:=a) (by omega) (x1,x2,x3,x4,x5)
     go_roundw
     case rel=>exact ⟨_,_,_,_,_,_,_,_,_,_,_,_,_,_,_,_,_,_,_,_,_,_,_,⟨a+1,b+1,cs.set a (x1,x2,x3,x4,x5),by go_num,by go_num,HKF2,fA HN,(((((hw2.setCell (p:=⟨g,a * 5,none⟩) hgb _).setCell (p:=⟨g,a * 5+1,none⟩) hgb _).setCell (p:=⟨g,a * 5+2,none⟩) hgb _).setCell (p:=⟨g,a * 5+3,none⟩) hgb _).setCell (p:=⟨g,a * 5+4,none⟩) hgb _),by simpa using tA hgw hb2.size⟩,rfl⟩
     case measure=>simp [intOf];omega
   ·have hk1:¬ (b:Int)<(xs.length:Int):=by omega
    have hbe:b=xs.length:=by omega
    subst hbe
    obtain ⟨hou1,hou2⟩:=HK.out.out
    have hac:a<=xs.length:=by omega
    have hs1:∀ W,(yF 119 (.slice (yA ⟨g,0,none⟩) xs.length c) (yA (.int .i64 (a:Int))) none none).run prog W=.ok (.slice (yA ⟨g,a * 5,none⟩) (xs.length - a) (c - a)) W:=fun W=>by
     have:=eK (P:=prog) oX (yA ⟨g,0,none⟩) xs.length c a (by omega) W
     rw [this]
     unfold cutS
     rw [if_neg (by omega)]
     simp [sM]
     try omega
    have hs2:∀ W,(yF 119 (.slice (yA ⟨g,0,none⟩) xs.length c) none (yA (.int .i64 (a:Int))) none).run prog W=.ok (.slice (yA ⟨g,0,none⟩) a c) W:=fun W=>mP (P:=prog) oX (yA ⟨g,0,none⟩) xs.length c a (by omega) W
    obtain ⟨zs,hzs⟩:∃ zs,zs=(uC (vE #[.int .i64 0,.int .i64 0,.int .u32 0,.bool false,.bool false]).cells (xs.length - a)).toList:=⟨_,rfl⟩
    have hzl:zs.length=(xs.length - a) * 5:=by rw [hzs];simp [uC,lK]
    have hcell:∀ j,j<xs.length * 5 -> (wr.cell? ⟨g,j,none⟩).isSome=true:=fun j hj=>by
     have hj2:j<(flat fJ cs).length:=by rw [jD iO,hcl];exact hj
     have:=mH HO1.out (i:=j) (rA hj2)
     rw [this];rfl
    have hcl2:∀ ty,(jE #[119] ty #[.slice (yA ⟨g,a * 5,none⟩) (xs.length - a) (c - a)]).run prog wr=.ok (.tuple #[]) (wr.setCells g (a * 5) zs):=fun ty=>by
     rw [hzs]
     exact fX wr 5 ty g (a * 5) _ _ oX.under (by kernel_rfl) rfl (by rw [<- hzs];intro u hu;rw [hzs] at hu;exact zJk _ u hu) (by rw [<- hzs];exact hzl) (by omega) (fun j hj=>hcell _ (by omega)) (fun j hj=>mG HO1.out _)
    have HF:=fA (bZ iO HO1.out hcl (i:=a) (by omega) zs (by omega))
    rw [hou1] at HF
    have HB:=fA (below_setCells hgb zs (a * 5) hw)
    have HE:=fA hou2
    clear hzl hzs hcell HI hou1 hou2 HP
    go_wp2
    go_ret
    have HE':=HE.out.symm
    refine ⟨by rw [HE'];rfl,?_,HB.out⟩
    rw [HE']
    exact HF.out
theorem zJi (n:Nat):∀ u ∈ (uC (vE #[.int .i64 0,.int .i64 0,.int .i64 0,.int .i64 0]).cells n).toList,u.oneCell'=true:=fun u hu=>by
 obtain ⟨i,hi,rfl⟩:=rO.1 hu
 simp only [uC,lK,tW,cW]
 have:i % 4<4:=tO _ (by decide)
 simp
 generalize i % 4=j at *
 match j,this with
 | 0,_=>rfl
 | 1,_=>rfl
 | 2,_=>rfl
 | 3,_=>rfl
theorem zJN (A : Option Addr) (c : Nat) (xs : List Nd) (base gf : Nat) (lb : Array uB) (eg : ∀ args w, (xG gf args).run prog w = .ok (.enter gf args) w) (p : Nd -> Bool) (w : uA) (hbase : base <= w.heap.size) (ho : w.ownsRow base 207 4 (.slice A xs.length c) xs.length (flat qH xs)) (hmx : xs.length <= 1000000) (hp : xQ base gf lb (fun x : Nd => vE (qH x).toArray) p w) : iA prog 319 #[.slice A xs.length c, .func (.func gf) #[] lb] w (wY qH base 207 4 A c (nE p xs) w) := by
 have HI:=fA (zKf A c xs gf lb eg p w (yB.of_own ho hmx) (hp.at_ hbase))
 rcases fM p xs 0 with ⟨e,hall⟩ | ⟨k0,hk0,e,ht,hall⟩
 ·rw [e] at HI
  rw [xZ hall]
  have HO:=fA ho
  clear ho e hall hp
  go_enter func319,ntmps319
  go_wp2_with (go_at_call 357;refine HI.out.mono ?_;rintro e w1 ⟨rfl,hb1⟩)
  go_ret
  exact ⟨rfl,jB HO.out hb1,hb1.mono hbase⟩
 ·rw [bD] at e
  rw [e] at HI
  obtain ⟨g,rfl⟩:∃ g,A=yA ⟨g,0,none⟩:=by
   obtain ⟨g,c',hv,_⟩:=ho.form (by omega)
   injection hv with e
   exact ⟨g,e⟩
  have hgo:=qC ho g (by simp [zB])
  have hgb:=hgo.1
  have hgl:=hgo.2
  have hnc:=fP ho
  have HO:=fA ho
  have HK:=fA (Kept.start hk0 ht hall)
  have HP:=fA hp
  have hcm:c<=9223372036854775807:=by
   obtain ⟨_,h0 | ⟨g',c',cur,hv,_,_,_,hcm,_⟩⟩:=ho
   ·cases h0.1
   ·injection hv with _ _ e3;subst e3;unfold fC at hcm;omega
  clear ho e hall hp ht hgo
  go_enter func319,ntmps319
  go_wp2_with (go_at_call 357;refine HI.out.mono ?_;rintro e w1 ⟨rfl,hb1⟩;have HO1:=fA (jB HO.out hb1);have hw1:=hb1.mono hbase)
  go_loopw [5,6,7] (fun i j v wr=>∃ (a b:Nat) (cs:List Nd),i=.int .i64 (a:Int)/\j=.int .i64 (b:Int)/\Hid (Kept p xs cs a b)/\Hid (wr.ownsRow base 207 4 (.slice (yA ⟨g,0,none⟩) xs.length c) xs.length (flat qH cs))/\Below base w wr/\g<wr.heap.size) (fun _ j _ _=>xs.length - (intOf j).toNat)
  case atStart=>exact ⟨k0,k0+1,xs,rfl,by go_num,HK,HO1,hw1,tA hgl hb1.size⟩
  case round =>
   clear hw1 hb1 HO1 HK
   obtain ⟨a,b,cs,rfl,rfl,HK,HO1,hw,hgw⟩:=hrel
   have hab:=HK.out.lt
   have hbl:=HK.out.le
   have hcl:=HK.out.len
   have ha0:(0:Int)<=(a:Int):=by omega
   have hb0:(0:Int)<=(b:Int):=by omega
   have hbw:=hbase
   by_cases hlt:b<xs.length
   ·have hk1:(b:Int)<(xs.length:Int):=by omega
    have hal:(a:Int)<(xs.length:Int):=by omega
    have hat:=HK.out.at_ hlt
    have qb:∀ j u,j<4 -> (qH (xs[b]'hlt))[j]?=yA u -> wr.cell? ⟨g,b * 4+j,none⟩=yA u:=fun j u hj hu=>mH HO1.out (by rw [tK yO (by omega) hj,hat];exact hu)
    have qa:∀ j u,j<4 -> (qH (cs[a]'(by omega)))[j]?=yA u -> wr.cell? ⟨g,a * 4+j,none⟩=yA u:=fun j u hj hu=>mH HO1.out (by rw [tK yO (by omega) hj];exact hu)
    have fa:=mG HO1.out
    have HKT:=fA (fun ht=>HK.out.skip hlt ht)
    have HKF:=fA (fun ht=>HK.out.keep hlt ht)
    generalize (xs[b]'hlt)=x at *
    generalize (cs[a]'(by omega))=old at *
    obtain ⟨x1,x2,x3,x4⟩:=x
    obtain ⟨y1,y2,y3,y4⟩:=old
    have c0:wr.cell? ⟨g,b * 4,none⟩=yA (.int .i64 x1):=qb 0 _ (by decide) rfl
    have c1:wr.cell? ⟨g,b * 4+1,none⟩=yA (.int .i64 x2):=qb 1 _ (by decide) rfl
    have c2:wr.cell? ⟨g,b * 4+2,none⟩=yA (.int .i64 x3):=qb 2 _ (by decide) rfl
    have c3:wr.cell? ⟨g,b * 4+3,none⟩=yA (.int .i64 x4):=qb 3 _ (by decide) rfl
    have ca0:wr.cell? ⟨g,a * 4,none⟩=yA (.int .i64 y1):=qa 0 _ (by decide) rfl
    have ca1:wr.cell? ⟨g,a * 4+1,none⟩=yA (.int .i64 y2):=qa 1 _ (by decide) rfl
    have ca2:wr.cell? ⟨g,a * 4+2,none⟩=yA (.int .i64 y3):=qa 2 _ (by decide) rfl
    have ca3:wr.cell? ⟨g,a * 4+3,none⟩=yA (.int .i64 y4):=qa 3 _ (by decide) rfl
    have HFA:=fA fa
    clear qb qa hat fa
    have hal:=wA wr (.cells #[x1,x2,x3,x4] 207)
    have gX:=rB wr (.cells #[x1,x2,x3,x4] 207)
    have HC:=fA (HP.out (wr.alloc (.cells #[x1,x2,x3,x4] 207)) (x1,x2,x3,x4) (hw.trans (hal.mono (pA hbw hw.size))))
    have HC2:Hid (iA prog gf (#[.agg #[x1,x2,x3,x4]] ++ lb) (wr.alloc (.cells #[x1,x2,x3,x4] 207)) fun e w'=>e=.returned (.bool (p (x1,x2,x3,x4)))/\Below (wr.alloc (.cells #[x1,x2,x3,x4] 207)).heap.size (wr.alloc (.cells #[x1,x2,x3,x4] 207)) w'):=HC
    clear HC
    generalize p (x1,x2,x3,x4)=q at *
    cases q with
    | true =>
     have HKT2:=fA (HKT.out rfl)
     go_wp2_with (go_at_fn gf;refine HC2.out.mono ?_;rintro e w2 ⟨rfl,hb2'⟩;have hb2:=hal.trans (hb2'.mono hal.size);have hw2:=hw.trans (hb2.mono (pA hbw hw.size)))
     go_roundw
     case rel=>exact ⟨_,_,_,_,_,_,_,_,_,_,_,_,_,_,_,_,_,_,_,_,_,_,_,⟨a,b+1,cs,rfl,by go_num,HKT2,fA (jB HO1.out hb2),hw2,tA hgw hb2.size⟩,rfl⟩
     case measure=>simp [intOf];omega
    | false =>
     have HKF2:=fA (HKF.out rfl)
     go_wp2_with (go_at_fn gf;refine HC2.out.mono ?_;rintro e w2 ⟨rfl,hb2'⟩;have hb2:=hal.trans (hb2'.mono hal.size);have hw2:=hw.trans (hb2.mono (pA hbw hw.size));have g2:=kA hb2' gX;have e0:w2.cell? ⟨wr.heap.size,0,none⟩=yA (.int .i64 x1):=jA g2 0;have e1:w2.cell? ⟨wr.heap.size,1,none⟩=yA (.int .i64 x2):=jA g2 1;have e2:w2.cell? ⟨wr.heap.size,2,none⟩=yA (.int .i64 x3):=jA g2 2;have e3:w2.cell? ⟨wr.heap.size,3,none⟩=yA (.int .i64 x4):=jA g2 3;have da0:=((bcell hb2).1 g (a * 4) hgw).trans ca0;have df0:=((bcell hb2).2 g (a * 4) hgw).trans (HFA.out (a * 4));have da1:=((bcell hb2).1 g (a * 4+1) hgw).trans ca1;have df1:=((bcell hb2).2 g (a * 4+1) hgw).trans (HFA.out (a * 4+1));have da2:=((bcell hb2).1 g (a * 4+2) hgw).trans ca2;have df2:=((bcell hb2).2 g (a * 4+2) hgw).trans (HFA.out (a * 4+2));have da3:=((bcell hb2).1 g (a * 4+3) hgw).trans ca3;have df3:=((bcell hb2).2 g (a * 4+3) hgw).trans (HFA.out (a * 4+3));have g2lt:=eB g2)
     have HN:=mR yO (jB HO1.out hb2) hcl (i:=a) (by omega) (x1,x2,x3,x4)
     go_roundw
     case rel=>exact ⟨_,_,_,_,_,_,_,_,_,_,_,_,_,_,_,_,_,_,_,_,_,_,_,⟨a+1,b+1,cs.set a (x1,x2,x3,x4),by go_num,by go_num,HKF2,fA HN,((((hw2.setCell (p:=⟨g,a * 4,none⟩) hgb _).setCell (p:=⟨g,a * 4+1,none⟩) hgb _).setCell (p:=⟨g,a * 4+2,none⟩) hgb _).setCell (p:=⟨g,a * 4+3,none⟩) hgb _),by simpa using tA hgw hb2.size⟩,rfl⟩
     case measure=>simp [intOf];omega
   ·have hk1:¬ (b:Int)<(xs.length:Int):=by omega
    have hbe:b=xs.length:=by omega
    subst hbe
    obtain ⟨hou1,hou2⟩:=HK.out.out
    have hac:a<=xs.length:=by omega
    have hs1:∀ W,(yF 47 (.slice (yA ⟨g,0,none⟩) xs.length c) (yA (.int .i64 (a:Int))) none none).run prog W=.ok (.slice (yA ⟨g,a * 4,none⟩) (xs.length - a) (c - a)) W:=fun W=>by
     have:=eK (P:=prog) zCy (yA ⟨g,0,none⟩) xs.length c a (by omega) W
     rw [this]
     unfold cutS
     rw [if_neg (by omega)]
     simp [sM]
     try omega
    have hs2:∀ W,(yF 47 (.slice (yA ⟨g,0,none⟩) xs.length c) none (yA (.int .i64 (a:Int))) none).run prog W=.ok (.slice (yA ⟨g,0,none⟩) a c) W:=fun W=>mP (P:=prog) zCy (yA ⟨g,0,none⟩) xs.length c a (by omega) W
    obtain ⟨zs,hzs⟩:∃ zs,zs=(uC (vE #[.int .i64 0,.int .i64 0,.int .i64 0,.int .i64 0]).cells (xs.length - a)).toList:=⟨_,rfl⟩
    have hzl:zs.length=(xs.length - a) * 4:=by rw [hzs];simp [uC,lK]
    have hcell:∀ j,j<xs.length * 4 -> (wr.cell? ⟨g,j,none⟩).isSome=true:=fun j hj=>by
     have hj2:j<(flat qH cs).length:=by rw [jD yO,hcl];exact hj
     have:=mH HO1.out (i:=j) (rA hj2)
     rw [this];rfl
    have hcl2:∀ ty,(jE #[47] ty #[.slice (yA ⟨g,a * 4,none⟩) (xs.length - a) (c - a)]).run prog wr=.ok (.tuple #[]) (wr.setCells g (a * 4) zs):=fun ty=>by
     rw [hzs]
     exact fX wr 4 ty g (a * 4) _ _ zCy.under (by kernel_rfl) rfl (by rw [<- hzs];intro u hu;rw [hzs] at hu;exact zJi _ u hu) (by rw [<- hzs];exact hzl) (by omega) (fun j hj=>hcell _ (by omega)) (fun j hj=>mG HO1.out _)
    have HF:=fA (bZ yO HO1.out hcl (i:=a) (by omega) zs (by omega))
    rw [hou1] at HF
    have HB:=fA (below_setCells hgb zs (a * 4) hw)
    have HE:=fA hou2
    clear hzl hzs hcell HI hou1 hou2 HP
    go_wp2
    go_ret
    have HE':=HE.out.symm
    refine ⟨by rw [HE'];rfl,?_,HB.out⟩
    rw [HE']
    exact HF.out
theorem zJj (n:Nat):∀ u ∈ (uC (vE #[.int .i64 0,.int .i64 0,.int .i64 0,.int .u32 0,.int .i64 0,.int .i64 0,.int .i64 0]).cells n).toList,u.oneCell'=true:=fun u hu=>by
 obtain ⟨i,hi,rfl⟩:=rO.1 hu
 simp only [uC,lK,tW,cW]
 have:i % 7<7:=tO _ (by decide)
 simp
 generalize i % 7=j at *
 match j,this with
 | 0,_=>rfl
 | 1,_=>rfl
 | 2,_=>rfl
 | 3,_=>rfl
 | 4,_=>rfl
 | 5,_=>rfl
 | 6,_=>rfl
theorem zJO (A : Option Addr) (c : Nat) (xs : List Od) (base gf : Nat) (lb : Array uB) (eg : ∀ args w, (xG gf args).run prog w = .ok (.enter gf args) w) (p : Od -> Bool) (w : uA) (hbase : base <= w.heap.size) (ho : w.ownsRow base 105 7 (.slice A xs.length c) xs.length (flat qL xs)) (hmx : xs.length <= 1000000) (hp : xQ base gf lb (fun x : Od => vE (qL x).toArray) p w) : iA prog 169 #[.slice A xs.length c, .func (.func gf) #[] lb] w (wY qL base 105 7 A c (nE p xs) w) := by
 have HI:=fA (zEH A c xs gf lb eg p w (yB.of_own ho hmx) (hp.at_ hbase))
 rcases fM p xs 0 with ⟨e,hall⟩ | ⟨k0,hk0,e,ht,hall⟩
 ·rw [e] at HI
  rw [xZ hall]
  have HO:=fA ho
  clear ho e hall hp
  go_enter func169,ntmps169
  go_wp2_with (go_at_call 222;refine HI.out.mono ?_;rintro e w1 ⟨rfl,hb1⟩)
  go_ret
  exact ⟨rfl,jB HO.out hb1,hb1.mono hbase⟩
 ·rw [bD] at e
  rw [e] at HI
  obtain ⟨g,rfl⟩:∃ g,A=yA ⟨g,0,none⟩:=by
   obtain ⟨g,c',hv,_⟩:=ho.form (by omega)
   injection hv with e
   exact ⟨g,e⟩
  have hgo:=qC ho g (by simp [zB])
  have hgb:=hgo.1
  have hgl:=hgo.2
  have hnc:=fP ho
  have HO:=fA ho
  have HK:=fA (Kept.start hk0 ht hall)
  have HP:=fA hp
  have hcm:c<=9223372036854775807:=by
   obtain ⟨_,h0 | ⟨g',c',cur,hv,_,_,_,hcm,_⟩⟩:=ho
   ·cases h0.1
   ·injection hv with _ _ e3;subst e3;unfold fC at hcm;omega
  clear ho e hall hp ht hgo
  go_enter func169,ntmps169
  go_wp2_with (go_at_call 222;refine HI.out.mono ?_;rintro e w1 ⟨rfl,hb1⟩;have HO1:=fA (jB HO.out hb1);have hw1:=hb1.mono hbase)
  go_loopw [5,6,7] (fun i j v wr=>∃ (a b:Nat) (cs:List Od),i=.int .i64 (a:Int)/\j=.int .i64 (b:Int)/\Hid (Kept p xs cs a b)/\Hid (wr.ownsRow base 105 7 (.slice (yA ⟨g,0,none⟩) xs.length c) xs.length (flat qL cs))/\Below base w wr/\g<wr.heap.size) (fun _ j _ _=>xs.length - (intOf j).toNat)
  case atStart=>exact ⟨k0,k0+1,xs,rfl,by go_num,HK,HO1,hw1,tA hgl hb1.size⟩
  case round =>
   clear hw1 hb1 HO1 HK
   obtain ⟨a,b,cs,rfl,rfl,HK,HO1,hw,hgw⟩:=hrel
   have hab:=HK.out.lt
   have hbl:=HK.out.le
   have hcl:=HK.out.len
   have ha0:(0:Int)<=(a:Int):=by omega
   have hb0:(0:Int)<=(b:Int):=by omega
   have hbw:=hbase
   by_cases hlt:b<xs.length
   ·have hk1:(b:Int)<(xs.length:Int):=by omega
    have hal:(a:Int)<(xs.length:Int):=by omega
    have hat:=HK.out.at_ hlt
    have qb:∀ j u,j<7 -> (qL (xs[b]'hlt))[j]?=yA u -> wr.cell? ⟨g,b * 7+j,none⟩=yA u:=fun j u hj hu=>mH HO1.out (by rw [tK zW (by omega) hj,hat];exact hu)
    have qa:∀ j u,j<7 -> (qL (cs[a]'(by omega)))[j]?=yA u -> wr.cell? ⟨g,a * 7+j,none⟩=yA u:=fun j u hj hu=>mH HO1.out (by rw [tK zW (by omega) hj];exact hu)
    have fa:=mG HO1.out
    have HKT:=fA (fun ht=>HK.out.skip hlt ht)
    have HKF:=fA (fun ht=>HK.out.keep hlt ht)
    generalize (xs[b]'hlt)=x at *
    generalize (cs[a]'(by omega))=old at *
    obtain ⟨x1,x2,x3,x4,x5,x6,x7⟩:=x
    obtain ⟨y1,y2,y3,y4,y5,y6,y7⟩:=old
    have c0:wr.cell? ⟨g,b * 7,none⟩=yA (.int .i64 x1):=qb 0 _ (by decide) rfl
    have c1:wr.cell? ⟨g,b * 7+1,none⟩=yA (.int .i64 x2):=qb 1 _ (by decide) rfl
    have c2:wr.cell? ⟨g,b * 7+2,none⟩=yA (.int .i64 x3):=qb 2 _ (by decide) rfl
    have c3:wr.cell? ⟨g,b * 7+3,none⟩=yA (.int .u32 x4):=qb 3 _ (by decide) rfl
    have c4:wr.cell? ⟨g,b * 7+4,none⟩=yA (.int .i64 x5):=qb 4 _ (by decide) rfl
    have c5:wr.cell? ⟨g,b * 7+5,none⟩=yA (.int .i64 x6):=qb 5 _ (by decide) rfl
    have c6:wr.cell? ⟨g,b * 7+6,none⟩=yA (.int .i64 x7):=qb 6 _ (by decide) rfl
    have ca0:wr.cell? ⟨g,a * 7,none⟩=yA (.int .i64 y1):=qa 0 _ (by decide) rfl
    have ca1:wr.cell? ⟨g,a * 7+1,none⟩=yA (.int .i64 y2):=qa 1 _ (by decide) rfl
    have ca2:wr.cell? ⟨g,a * 7+2,none⟩=yA (.int .i64 y3):=qa 2 _ (by decide) rfl
    have ca3:wr.cell? ⟨g,a * 7+3,none⟩=yA (.int .u32 y4):=qa 3 _ (by decide) rfl
    have ca4:wr.cell? ⟨g,a * 7+4,none⟩=yA (.int .i64 y5):=qa 4 _ (by decide) rfl
    have ca5:wr.cell? ⟨g,a * 7+5,none⟩=yA (.int .i64 y6):=qa 5 _ (by decide) rfl
    have ca6:wr.cell? ⟨g,a * 7+6,none⟩=yA (.int .i64 y7):=qa 6 _ (by decide) rfl
    have HFA:=fA fa
    clear qb qa hat fa
    have hal:=wA wr (.cells #[x1,x2,x3,.int .u32 x4,x5,x6,x7] 105)
    have gX:=rB wr (.cells #[x1,x2,x3,.int .u32 x4,x5,x6,x7] 105)
    have HC:=fA (HP.out (wr.alloc (.cells #[x1,x2,x3,.int .u32 x4,x5,x6,x7] 105)) (x1,x2,x3,x4,x5,x6,x7) (hw.trans (hal.mono (pA hbw hw.size))))
    have HC2:Hid (iA prog gf (#[.agg #[x1,x2,x3,.int .u32 x4,x5,x6,x7]] ++ lb) (wr.alloc (.cells #[x1,x2,x3,.int .u32 x4,x5,x6,x7] 105)) fun e w'=>e=.returned (.bool (p (x1,x2,x3,x4,x5,x6,x7)))/\Below (wr.alloc (.cells #[x1,x2,x3,.int .u32 x4,x5,x6,x7] 105)).heap.size (wr.alloc (.cells #[x1,x2,x3,.int .u32 x4,x5,x6,x7] 105)) w'):=HC
    clear HC
    generalize p (x1,x2,x3,x4,x5,x6,x7)=q at *
    cases q with
    | true =>
     have HKT2:=fA (HKT.out rfl)
     go_wp2_with (go_at_fn gf;refine HC2.out.mono ?_;rintro e w2 ⟨rfl,hb2'⟩;have hb2:=hal.trans (hb2'.mono hal.size);have hw2:=hw.trans (hb2.mono (pA hbw hw.size)))
     go_roundw
     case rel=>exact ⟨_,_,_,_,_,_,_,_,_,_,_,_,_,_,_,_,_,_,_,_,_,_,_,⟨a,b+1,cs,rfl,by go_num,HKT2,fA (jB HO1.out hb2),hw2,tA hgw hb2.size⟩,rfl⟩
     case measure=>simp [intOf];omega
    | false =>
     have HKF2:=fA (HKF.out rfl)
     go_wp2_with (go_at_fn gf;refine HC2.out.mono ?_;rintro e w2 ⟨rfl,hb2'⟩;have hb2:=hal.trans (hb2'.mono hal.size);have hw2:=hw.trans (hb2.mono (pA hbw hw.size));have g2:=kA hb2' gX;have e0:w2.cell? ⟨wr.heap.size,0,none⟩=yA (.int .i64 x1):=jA g2 0;have e1:w2.cell? ⟨wr.heap.size,1,none⟩=yA (.int .i64 x2):=jA g2 1;have e2:w2.cell? ⟨wr.heap.size,2,none⟩=yA (.int .i64 x3):=jA g2 2;have e3:w2.cell? ⟨wr.heap.size,3,none⟩=yA (.int .u32 x4):=jA g2 3;have e4:w2.cell? ⟨wr.heap.size,4,none⟩=yA (.int .i64 x5):=jA g2 4;have e5:w2.cell? ⟨wr.heap.size,5,none⟩=yA (.int .i64 x6):=jA g2 5;have e6:w2.cell? ⟨wr.heap.size,6,none⟩=yA (.int .i64 x7):=jA g2 6;have da0:=((bcell hb2).1 g (a * 7) hgw).trans ca0;have df0:=((bcell hb2).2 g (a * 7) hgw).trans (HFA.out (a * 7));have da1:=((bcell hb2).1 g (a * 7+1) hgw).trans ca1;have df1:=((bcell hb2).2 g (a * 7+1) hgw).trans (HFA.out (a * 7+1));have da2:=((bcell hb2).1 g (a * 7+2) hgw).trans ca2;have df2:=((bcell hb2).2 g (a * 7+2) hgw).trans (HFA.out (a * 7+2));have da3:=((bcell hb2).1 g (a * 7+3) hgw).trans ca3;have df3:=((bcell hb2).2 g (a * 7+3) hgw).trans (HFA.out (a * 7+3));have da4:=((bcell hb2).1 g (a * 7+4) hgw).trans ca4;have df4:=((bcell hb2).2 g (a * 7+4) hgw).trans (HFA.out (a * 7+4));have da5:=((bcell hb2).1 g (a * 7+5) hgw).trans ca5;have df5:=((bcell hb2).2 g (a * 7+5) hgw).trans (HFA.out (a * 7+5));have da6:=((bcell hb2).1 g (a * 7+6) hgw).trans ca6;have df6:=((bcell hb2).2 g (a * 7+6) hgw).trans (HFA.out (a * 7+6));have g2lt:=eB g2)
     have HN:=mR zW (jB HO1.out hb2) hcl (i:=a) (by omega) (x1,x2,x3,x4,x5,x6,x7)
     go_roundw
     case rel=>exact ⟨_,_,_,_,_,_,_,_,_,_,_,_,_,_,_,_,_,_,_,_,_,_,_,⟨a+1,b+1,cs.set a (x1,x2,x3,x4,x5,x6,x7),by go_num,by go_num,HKF2,fA HN,(((((((hw2.setCell (p:=⟨g,a * 7,none⟩) hgb _).setCell (p:=⟨g,a * 7+1,none⟩) hgb _).setCell (p:=⟨g,a * 7+2,none⟩) hgb _).setCell (p:=⟨g,a * 7+3,none⟩) hgb _).setCell (p:=⟨g,a * 7+4,none⟩) hgb _).setCell (p:=⟨g,a * 7+5,none⟩) hgb _).setCell (p:=⟨g,a * 7+6,none⟩) hgb _),by simpa using tA hgw hb2.size⟩,rfl⟩
     case measure=>simp [intOf];omega
   ·have hk1:¬ (b:Int)<(xs.length:Int):=by omega
    have hbe:b=xs.length:=by omega
    subst hbe
    obtain ⟨hou1,hou2⟩:=HK.out.out
    have hac:a<=xs.length:=by omega
    have hs1:∀ W,(yF 54 (.slice (yA ⟨g,0,none⟩) xs.length c) (yA (.int .i64 (a:Int))) none none).run prog W=.ok (.slice (yA ⟨g,a * 7,none⟩) (xs.length - a) (c - a)) W:=fun W=>by
     have:=eK (P:=prog) cO (yA ⟨g,0,none⟩) xs.length c a (by omega) W
     rw [this]
     unfold cutS
     rw [if_neg (by omega)]
     simp [sM]
     try omega
    have hs2:∀ W,(yF 54 (.slice (yA ⟨g,0,none⟩) xs.length c) none (yA (.int .i64 (a:Int))) none).run prog W=.ok (.slice (yA ⟨g,0,none⟩) a c) W:=fun W=>mP (P:=prog) cO (yA ⟨g,0,none⟩) xs.length c a (by omega) W
    obtain ⟨zs,hzs⟩:∃ zs,zs=(uC (vE #[.int .i64 0,.int .i64 0,.int .i64 0,.int .u32 0,.int .i64 0,.int .i64 0,.int .i64 0]).cells (xs.length - a)).toList:=⟨_,rfl⟩
    have hzl:zs.length=(xs.length - a) * 7:=by rw [hzs];simp [uC,lK]
    have hcell:∀ j,j<xs.length * 7 -> (wr.cell? ⟨g,j,none⟩).isSome=true:=fun j hj=>by
     have hj2:j<(flat qL cs).length:=by rw [jD zW,hcl];exact hj
     have:=mH HO1.out (i:=j) (rA hj2)
     rw [this];rfl
    have hcl2:∀ ty,(jE #[54] ty #[.slice (yA ⟨g,a * 7,none⟩) (xs.length - a) (c - a)]).run prog wr=.ok (.tuple #[]) (wr.setCells g (a * 7) zs):=fun ty=>by
     rw [hzs]
     exact fX wr 7 ty g (a * 7) _ _ cO.under (by kernel_rfl) rfl (by rw [<- hzs];intro u hu;rw [hzs] at hu;exact zJj _ u hu) (by rw [<- hzs];exact hzl) (by omega) (fun j hj=>hcell _ (by omega)) (fun j hj=>mG HO1.out _)
    have HF:=fA (bZ zW HO1.out hcl (i:=a) (by omega) zs (by omega))
    rw [hou1] at HF
    have HB:=fA (below_setCells hgb zs (a * 7) hw)
    have HE:=fA hou2
    clear hzl hzs hcell HI hou1 hou2 HP
    go_wp2
    go_ret
    have HE':=HE.out.symm
    refine ⟨by rw [HE'];rfl,?_,HB.out⟩
    rw [HE']
    exact HF.out
end Go.Proofs.YtogbpifcmhafkaaGreat
