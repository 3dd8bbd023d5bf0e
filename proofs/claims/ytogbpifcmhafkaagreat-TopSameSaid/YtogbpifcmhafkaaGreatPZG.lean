/-
 Part PZG of the proof.
-/
import Derived.Test.YtogbpifcmhafkaaGreatPZC
import Derived.Shelf.Slices.CompactI
open Go renaming Addr->mB,Calls->iA,Value->uB,World->uA,maxLen->fC
open Go.Instr renaming lookup->eE
open Go.Lib renaming hid->fA
open Go.Proofs.Tryz renaming underlying343->zCe
open Go.RowKit renaming Hid->jC
open Go.RowKit.Below renaming refl->cC
open Go.Sort renaming grow->mU
open Go.Value renaming int->dD,oneCell'->qE
open Go.World renaming ownsRow_nil->nB,size_alloc->wB
open Go.World.ownsMap renaming store->rM
open List renaming eq_nil_of_length_eq_zero->lC,length_append->kB,length_filter_le->eC,mem_singleton->xB,take_of_length_le->zC,take_succ_eq_append_getElem->tB
open Nat renaming add_zero->yJ,le_refl->mA,le_trans->pA,lt_of_lt_of_le->tA
open Option renaming some->yA
open Prod.mk renaming inj->zX
namespace Go.Proofs.YtogbpifcmhafkaaGreat
open Go.RowKit Tryz
open Go.Lib(hid)
set_option linter.unusedVariables false
set_option linter.unusedSimpArgs false
set_option maxRecDepth 100000
set_option maxHeartbeats 16000000
section
open Go.Shelf Go.Sort
def zHJ:Go.Shelf.Ren:=⟨fun | 20=>140 | n=>n,fun | 22=>63 | 3=>3 | 4=>4 | 0=>0 | n=>n,fun | n=>n⟩
theorem zLi:Go.Proofs.Lays2.n20 prog zHJ:={
 mixed:=by kernel_rfl
 f20:=func140.trans (congrArg yA (by kernel_rfl))
 t0:=underlying0
 a0:=isAgg0
 z0:=sizeOf0
 v0:=zeroValue0
 t3:=underlying3
 a3:=isAgg3
 z3:=sizeOf3
 v3:=zeroValue3
 t4:=underlying4
 a4:=isAgg4
 z4:=sizeOf4
 v4:=zeroValue4
 t22:=underlying63
 a22:=isAgg63
 z22:=sizeOf63
 v22:=zeroValue63
 i3:=by kernel_rfl }
theorem zHQ (blk off cap:Nat) (zs:List Int) (w:uA) (hH:Go.Sort.Holds (dD .i64) w blk off zs.toArray) (hsz:zs.length<=9223372036854775807) (hcap:zs.length<=cap) :
  iA prog 140 #[.slice (yA ⟨blk,off,none⟩) zs.length cap] w fun e w'=>e=.returned (.slice (yA ⟨blk,off,none⟩) (Lib.compact zs).length cap)/\∃ q,w'=putRow (dD .i64) (Sort.ahead w q) blk off (Lib.compact zs ++ List.replicate (zs.length - (Lib.compact zs).length) 0).toArray:=Any.slices_Compact_int zLi blk off cap zs w hH hsz hcap
theorem zGU (a:Option mB) (cap:Nat) (w:uA) :
  iA prog 140 #[.slice a 0 cap] w fun e w'=>e=.returned (.slice a 0 cap)/\w'=w:=Any.slices_Compact_int_empty zLi a cap w
theorem zOn (w:uA):iA prog 293 #[.slice none 0 0,.int .i64 0,.int .i64 0] w fun e w'=>e=.returned (.tuple #[])/\w'=w:=by
 go_enter func293,ntmps293
 go_wp2
 go_loopw [6] (fun v wr=>v=.int .i64 1/\wr=w) (fun _ _=>0)
 case atStart=>exact ⟨rfl,rfl⟩
 case round =>
  obtain ⟨rfl,rfl⟩:=hrel
  go_wp2
  go_end0
  exact ⟨rfl,rfl⟩
theorem zOZ (n:Int) (w:uA):iA prog 223 #[.slice none 0 0,.int .i64 0,.int .i64 0,n] w fun e w'=>e=.returned (.tuple #[])/\w'=w:=by
 go_enter func223,ntmps223
 go_wp2
 go_loopw [1,2,3,8,9] (fun v1 v2 v3 v8 v9 wr=>v1=.int .i64 0/\v2=.int .i64 0/\wr=w) (fun _ _ _ _ _ _=>0)
 case atStart=>exact ⟨rfl,rfl,rfl⟩
 case round =>
  obtain ⟨rfl,rfl,rfl⟩:=hrel
  go_wp2_with (go_at_call 293;refine (zOn _).mono ?_;rintro e w1 ⟨rfl,hw⟩;subst hw)
  refine bodyPost_ret (results_none rfl _ _ _) rfl ?_
  exact ⟨rfl,rfl⟩
theorem zMS (w:uA):iA prog 139 #[.slice none 0 0] w fun e w'=>e=.returned (.tuple #[])/\w'=w:=by
 go_enter func139,ntmps139
 go_wp2_with (first
  | (go_at_call 224;refine (zHx 0 _ (by omega) (by omega)).mono ?_;rintro e w1 ⟨rfl,hw⟩;subst hw)
  | (go_at_call 223;refine (zOZ _ _).mono ?_;rintro e w1 ⟨rfl,hw⟩;subst hw))
 go_end0
 exact ⟨rfl,rfl⟩
theorem zMT (base:Nat) (A:Option mB) (c:Nat) (zs:List Int) (w:uA) (h:w.ownsRow base 3 1 (.slice A zs.length c) zs.length (flat kG zs)) (h0:zs.length=0 -> A=none/\c=0) (hl:zs.length<=1000000) (hb:base<=w.heap.size):iA prog 139 #[.slice A zs.length c] w fun e w'=>e=.returned (.tuple #[])/\w'.ownsRow base 3 1 (.slice A zs.length c) zs.length (flat kG (wN zs))/\Below base w w':=by
 by_cases hz:zs.length=0
 ·obtain ⟨rfl,rfl⟩:=h0 hz
  obtain rfl:=lC hz
  refine (zMS w).mono ?_
  rintro e w' ⟨rfl,rfl⟩
  exact ⟨rfl,by rw [show wN []=[] from by simp [wN]];exact h,cC _ _⟩
 ·rw [uO] at h
  refine (zBn base A c zs w h (by omega) hl).mono ?_
  rintro e w' ⟨rfl,h1,h2⟩
  exact ⟨rfl,by rw [uO];exact h1,h2⟩
theorem zLx (d:Array Int):∀ m,(Lib.compactUpTo d m).length<=m
 | 0=>by simp [Lib.compactUpTo]
 | m + 1 => by
  rw [Lib.compactUpTo_succ,kB]
  have:=zLx d m
  split <;> simp <;> omega
theorem zDI (zs:List Int):(Lib.compact zs).length<=zs.length:=by
 have:=zLx zs.toArray zs.length
 simpa [Lib.compact] using this
theorem zLY (w:uA):mU w #[]=w:=by simp [mU]
theorem zEt (base:Nat) (A:Option mB) (c:Nat) (zs:List Int) (w:uA) (h:w.ownsRow base 3 1 (.slice A zs.length c) zs.length (flat kG zs)) (hl:zs.length<=1000000) (hb:base<=w.heap.size):iA prog 140 #[.slice A zs.length c] w fun e w'=>e=.returned (.slice A (Lib.compact zs).length c)/\w'.ownsRow base 3 1 (.slice A (Lib.compact zs).length c) (Lib.compact zs).length (flat kG (Lib.compact zs))/\Below base w w':=by
 by_cases hz:zs.length=0
 ·obtain rfl:=lC hz
  refine (zGU A c w).mono ?_
  rintro e w' ⟨rfl,rfl⟩
  exact ⟨rfl,h,cC _ _⟩
 ·have hcl:=zDI zs
  rw [uO] at h
  rcases h.2 with ⟨_,q⟩ | ⟨g,c',cur,hv,hg,hh,hnc,hcm,hcs,htk⟩
  ·exact absurd q hz
  ·injection hv with e1 e2 e3
   subst e1 e3
   rw [Nat.mul_one] at htk
   refine (zHQ g 0 c zs w (holds_of_blockI hh htk) (by omega) hnc).mono ?_
   rintro e w' ⟨rfl,q,rfl⟩
   obtain ⟨ts,hts⟩:∃ ts,Lib.compact zs ++ List.replicate (zs.length - (Lib.compact zs).length) 0=ts:=⟨_,rfl⟩
   have htl:ts.length=zs.length:=by rw [<- hts,kB,List.length_replicate];omega
   rw [hts,<- zLY (Go.Sort.putRow (dD .i64) (Go.Sort.ahead w q) g 0 ts.toArray)]
   have ho:=ownsRow_sortedI (os:=#[]) (n:=q) (ss:=zs) (ts:=ts) htl hg hh hnc hcm (by rw [hcs])
   refine ⟨rfl,?_,(cC base w).grown (grownBy_sortedI _) hb (fun k hk=>by cases hk;exact hg)⟩
   rw [<- htl] at ho
   have ho2:(mU (Go.Sort.putRow (dD .i64) (Go.Sort.ahead w q) g 0 ts.toArray) #[]).ownsRow base 3 1 (.slice (yA ⟨g,0,none⟩) ts.length c) ts.length (flat kG ts):=by rw [uO];exact ho
   have h3:=bZ dN ho2 (i:=(Lib.compact zs).length) rfl (by omega) [] (by simp;omega)
   have h4:ts.take (Lib.compact zs).length=Lib.compact zs:=by rw [<- hts,List.take_left'];rfl
   rw [h4] at h3
   exact h3
def zFi (cs:List Ch) (x:Rp):Bool := !x.2.2.2.1 && !((rF cs x.1).2 && jX x (rF cs x.1).1.1 (rF cs x.1).1.2.1 (rF cs x.1).1.2.2.1)
def zBo (cs:List Ch) (rep:List Rp):List Int:=if pG cs then Lib.compact (wN ((rep.filter (zFi cs)).map (·.1))) else []
theorem zMX (A B : Option mB) (ca cb : Nat) (cs : List Ch) (rep : List Rp) (w : uA) (h : vM w A ca cs) (h2 : yB fJ w B cb rep) : iA prog 67 #[.slice A cs.length ca, .slice B rep.length cb] w (mD 3 1 (zBo cs rep).length (flat kG (zBo cs rep)) w) := by
 have H2:=fA h2
 have hmx:=h2.max
 have HM:=fA (pZ A ca cs w h)
 have HF:=fA (fun t W (hb:Below w.heap.size w W)=>mS A ca cs t W (h.below hb))
 unfold zBo
 clear h h2
 generalize pG cs=m at *
 cases m with
 | false =>
  rw [if_neg (by simp)]
  go_enter func67,ntmps67
  go_wp2_with (go_at_call 101;refine HM.out.mono ?_;rintro e w1 ⟨rfl,hb1⟩)
  go_ret
  exact ⟨none,0,rfl,nB _ _ _ _,hb1⟩
 | true =>
  rw [if_pos rfl]
  obtain ⟨R,hR⟩:∃ R,(rep.filter (zFi cs)).map (·.1)=R:=⟨_,rfl⟩
  have HRF:=fA hR
  have HRL:jC (R.length<=rep.length):=fA (by rw [<- hR,List.length_map];exact eC _ _)
  rw [hR]
  clear hR
  have HSL:jC ((wN R).length=R.length):=fA (sR R)
  have HSO:jC (∀ A1 c1 W,w.heap.size<=W.heap.size -> (R.length=0 -> A1=none/\c1=0) -> W.ownsRow w.heap.size 3 1 (.slice A1 R.length c1) R.length (flat kG R) -> iA prog 139 #[.slice A1 R.length c1] W fun e w'=>e=.returned (.tuple #[])/\w'.ownsRow w.heap.size 3 1 (.slice A1 (wN R).length c1) (wN R).length (flat kG (wN R))/\Below w.heap.size W w'):=fA fun A1 c1 W hb h0 ho=>by
   rw [HSL.out]
   exact zMT w.heap.size A1 c1 R W ho h0 (by have:=HRL.out;omega) hb
  have HCP:jC (∀ A1 c1 W,w.heap.size<=W.heap.size -> W.ownsRow w.heap.size 3 1 (.slice A1 (wN R).length c1) (wN R).length (flat kG (wN R)) -> iA prog 140 #[.slice A1 R.length c1] W fun e w'=>e=.returned (.slice A1 (Lib.compact (wN R)).length c1)/\w'.ownsRow w.heap.size 3 1 (.slice A1 (Lib.compact (wN R)).length c1) (Lib.compact (wN R)).length (flat kG (Lib.compact (wN R)))/\Below w.heap.size W w'):=fA fun A1 c1 W hb ho=>by
   rw [<- HSL.out]
   exact zEt w.heap.size A1 c1 (wN R) W ho (by have:=HRL.out;rw [HSL.out];omega) hb
  generalize Lib.compact (wN R)=R3 at *
  generalize wN R=R2 at *
  go_enter func67,ntmps67
  go_wp2_with (go_at_call 101;refine HM.out.mono ?_;rintro e w1 ⟨rfl,hb1⟩)
  go_loopw [5,7,8,9,15] (fun v5 v7 v8 v9 i wr=>∃ (k n c:Nat) (A1:Option mB),k<=rep.length/\v5=.slice A1 n c/\i=.int .i64 (k:Int)/\n<=k/\jC (n=0 -> A1=none/\c=0)/\jC (wr.ownsRow w.heap.size 3 1 (.slice A1 n c) n (flat kG (((rep.take k).filter (zFi cs)).map (·.1))))/\Below w.heap.size w wr) (fun _ _ _ _ i _=>rep.length - (intOf i).toNat)
  case atStart=>exact ⟨0,0,0,none,by omega,rfl,rfl,by omega,fA (fun _=>⟨rfl,rfl⟩),nB _ _ _ _,hb1⟩
  case round =>
   clear hb1
   obtain ⟨k,n,c2,A2,hk,rfl,rfl,hnk,HZ,HO,hw⟩:=hrel
   have hk0:(0:Int)<=(k:Int):=by omega
   by_cases hlt:k<rep.length
   ·have hk1:(k:Int)<(rep.length:Int):=by omega
    have HS:=fA (wI (zFi cs) rep hlt)
    obtain ⟨b,off,rfl,blt,d0,d1,d2,d3,d4⟩:=rR (H2.out.below hw) hlt
    generalize (rep[k]'hlt)=x at *
    obtain ⟨x1,x2,x3,x4,x5⟩:=x
    simp only at d0 d1 d2 d3 d4 HS
    have hal:=wA wr (rpO x1 x2 x3 x4 x5)
    have gX:=rB wr (rpO x1 x2 x3 x4 x5)
    obtain ⟨e0,e1,e2,e3,e4,_⟩:=kN gX
    have HO2:=fA (jB HO.out hal)
    have hw0:=hw.trans (hal.mono hw.size)
    have HST:jC (zFi cs (x1,x2,x3,x4,x5)=(!x4 && !((rF cs x1).2 && jX (x1,x2,x3,x4,x5) (rF cs x1).1.1 (rF cs x1).1.2.1 (rF cs x1).1.2.2.1))):=fA rfl
    have HFX:=fA (fun W hb=>HF.out x1 W hb)
    generalize rF cs x1=r at *
    obtain ⟨⟨y1,y2,y3,y4⟩,fd⟩:=r
    simp only at HST
    have HFT:=fA (fun a cc W=>zHZ x1 x2 x3 y1 y2 y3 x4 x5 a y4.length cc W)
    generalize jX (x1,x2,x3,x4,x5) y1 y2 y3=ft at *
    go_upto_region 7 with fail
    generalize wr.alloc (rpO x1 x2 x3 x4 x5)=W2 at *
    cases x4 <;> cases fd <;> cases ft
    all_goals (
     go_wp2_with (first
      | (go_at_call 30;refine (HFX.out _ hw0).mono ?_;rintro e w3 ⟨a,cc,rfl,own3,hyl,hb3⟩;obtain ⟨p0,p1,p2,p3,p4,_⟩:=kN (kA (hb3.trans ((wA w3 (qN y1 y2 y3 a y4.length cc)).mono hb3.size)) gX);have hw3:=hw0.trans ((hb3.trans ((wA w3 (qN y1 y2 y3 a y4.length cc)).mono hb3.size)).mono hw0.size);have HO3:=fA (jB HO2.out (hb3.trans ((wA w3 (qN y1 y2 y3 a y4.length cc)).mono hb3.size)));obtain ⟨q0,q1,q2,q3,_⟩:=nH (rB w3 (qN y1 y2 y3 a y4.length cc)))
      | (go_at_call 136;refine (HFT.out _ _ _).mono ?_;rintro e w4 ⟨rfl,hb4⟩;obtain ⟨p0,p1,p2,p3,p4,_⟩:=kN (kA hb4 (kA (hb3.trans ((wA w3 (qN y1 y2 y3 a y4.length cc)).mono hb3.size)) gX));have hw4:=hw3.trans (hb4.mono hw3.size);have HO4:=fA (jB HO3.out hb4))
      | (at_builtin;refine yC rfl (.tmp 38) (.tmp 41) rfl tN w.heap.size (.slice A2 n c2) n _ (by rfl) (jB HO4.out (wA w4 _)) (yA ⟨w4.heap.size,0,none⟩) 1 1 [.int .i64 x1] (by rfl) rfl (dC.new w4 _ _) (by simp [qE]) (by unfold fC;omega) (by omega) (pA hw4.size (wA w4 _).size) (fun h=>by cases h) ?_;intro a1 c1 w5 hown hg hat;have hb5:=Below.appended (hw4.trans ((wA w4 (.cells #[x1] 3)).mono hw4.size)) (jB HO4.out (wA w4 (.cells #[x1] 3))) hg (pA hw4.size (wA w4 (.cells #[x1] 3)).size) (mA _))
      | (at_builtin;refine yC rfl (.tmp 38) (.tmp 41) rfl tN w.heap.size (.slice A2 n c2) n _ (by rfl) (jB HO3.out (wA (w3.alloc (qN y1 y2 y3 a y4.length cc)) (.cells #[x1] 3))) (yA ⟨w3.heap.size+1,0,none⟩) 1 1 [.int .i64 x1] (by rfl) rfl (by have hq:=dC.new (w3.alloc (qN y1 y2 y3 a y4.length cc)) #[x1] 3;rw [wB] at hq;exact hq) (by simp [qE]) (by unfold fC;omega) (by omega) (pA hw3.size (wA (w3.alloc (qN y1 y2 y3 a y4.length cc)) (.cells #[x1] 3)).size) (fun h=>by cases h) ?_;intro a1 c1 w5 hown hg hat;have hb5:=Below.appended (hw3.trans ((wA (w3.alloc (qN y1 y2 y3 a y4.length cc)) (.cells #[x1] 3)).mono hw3.size)) (jB HO3.out (wA (w3.alloc (qN y1 y2 y3 a y4.length cc)) (.cells #[x1] 3))) hg (pA hw3.size (wA (w3.alloc (qN y1 y2 y3 a y4.length cc)) (.cells #[x1] 3)).size) (mA _)))
     go_roundw
     case rel=>first
      | exact ⟨k+1,n+1,c1,a1,by omega,rfl,by go_num,by omega,fA (fun h=>by omega),fA (by rw [HS.out,HST.out,List.map_append,uD];exact hown),hb5⟩
      | exact ⟨k+1,n,c2,A2,by omega,rfl,by go_num,by omega,HZ,fA (by rw [HS.out,HST.out];simpa using HO4.out),hw4⟩
      | exact ⟨k+1,n,c2,A2,by omega,rfl,by go_num,by omega,HZ,fA (by rw [HS.out,HST.out];simpa using HO3.out),hw3⟩
     case measure=>simp [intOf];omega)
   have hk1:¬ (k:Int)<(rep.length:Int):=by omega
   have hke:k=rep.length:=by omega
   subst hke
   rw [zC (mA _),HRF.out] at HO
   have hl:=HO.out.1
   rw [jD dN] at hl
   have hn:n=R.length:=by omega
   subst hn
   go_wp2_with (first
    | (go_at_call 139;refine (HSO.out A2 c2 wr hw.size HZ.out HO.out).mono ?_;rintro e w6 ⟨rfl,own6,hb6⟩;have hw6:=hw.trans hb6)
    | (go_at_call 140;refine (HCP.out A2 c2 w6 hw6.size own6).mono ?_;rintro e w7 ⟨rfl,own7,hb7⟩))
   go_ret
   exact ⟨A2,c2,rfl,own7,hw6.trans hb7⟩
end
def zFt (ns:List Nd) (l:List Int) (r:Int):Nat:=(l.filter (fun x=>decide (bK ns x=r))).length
def zQG (ns:List Nd):List Int -> List (Int × uB)
 | []=>[]
 | x :: l=>(bK ns x,.int .i64 ((zFt ns l (bK ns x):Int)+1)) :: zQG ns l
theorem zEU (ns:List Nd) (r:Int):∀ l:List Int,(yT (zQG ns l) r).getD (.int .i64 0)=.int .i64 (zFt ns l r:Int)
 | []=>rfl
 | x :: l => by
  unfold zQG yT zFt
  by_cases h:bK ns x=r
  ·subst h
   rw [if_pos rfl,List.filter_cons,if_pos (by simp),List.length_cons]
   rfl
  ·rw [if_neg h,List.filter_cons,if_neg (by simp [h])]
   exact zEU ns r l
theorem zQm (ns:List Nd) (l:List Int) (r:Int):zFt ns l r<=l.length:=eC _ _
def zCJ (ns:List Nd) (l:List Int) (x:Int):Bool:=decide (1<(zFt ns l (bK ns x):Int))
theorem zMQ (P L M n:Nat) (A:Option mB) (c:Nat) (ns:List Nd) (l:List Int) (x:Int) (w:uA) (hP:P<w.heap.size) (cP:w.cell? ⟨P,0,none⟩=yA (.map (yA M))) (hL:L<w.heap.size) (cL:w.cell? ⟨L,0,none⟩=yA (.slice A ns.length c)) (h:yB qH w A c ns) (hm:uH w M n (zQG ns l)):iA prog 250 #[x,(P,0),(L,0)] w fun e w'=>e=.returned (.bool (zCJ ns l x))/\Below w.heap.size w w':=by
 have hb:=xC w
 have HR:=fA (fun W hb=>zIH A c ns x W (h.below hb))
 have hwf:=zDf ns x
 have HLK:jC (∀ W,Below w.heap.size w W -> (eE 343 (.map (yA M)) (.int .i64 (bK ns x)) false).run prog W=.ok (.int .i64 (zFt ns l (bK ns x):Int)) W):=fA fun W hb=>by
  rw [<- zEU ns (bK ns x) l]
  exact uH.look (hm.below hb) zCe (z:=.int .i64 0) (by kernel_rfl) (bK ns x) hwf
 unfold zCJ
 clear h hm
 generalize (zFt ns l (bK ns x))=k at *
 generalize bK ns x=r at *
 go_enter func250,ntmps250
 go_wp2_with fail
 go_region_held3 (fun W=>W.cell? ⟨P,0,none⟩=yA (.map (yA M))/\W.cell? ⟨L,0,none⟩=yA (.slice A ns.length c)) (first | exact ⟨cP,cL⟩ | exact ⟨m0,m1⟩ | go_keep) (first
  | (go_at_call 249;((with_reducible refine (HR.out _ hb.drew).mono ?_);rintro e w2 ⟨rfl,hb2⟩);have b2:=hb.drew.trans hb2;have hlk:=HLK.out _ b2;have m0:=((bcell b2).1 P 0 hP).trans cP;have m1:=((bcell b2).1 L 0 hL).trans cL))
 all_goals go_wp2
 go_ret
 exact ⟨rfl,b2⟩
def zEQ (f:Int -> Int -> Int) (xs:List Int):Int:=xs.tail.foldl (fun m x=>if 0<f x m then x else m) (xs.headD 0)
theorem zMs (f:Int -> Int -> Int) {xs:List Int} {k:Nat} (h0:0<k) (hk:k<xs.length):zEQ f (xs.take (k+1))=(if 0<f (xs[k]'hk) (zEQ f (xs.take k)) then (xs[k]'hk) else zEQ f (xs.take k)):=by
 match xs,k,h0 with
 | x :: ys, k + 1, _ =>
  have hk':k<ys.length:=by simpa using hk
  unfold zEQ
  simp only [List.take_succ_cons,List.tail_cons,List.headD_cons,List.getElem_cons_succ]
  rw [tB hk',List.foldl_append]
  rfl
theorem zOE (f:Int -> Int -> Int) {xs:List Int} (h:0<xs.length):zEQ f (xs.take 1)=(xs[0]'h):=by
 match xs,h with
 | x :: ys,_=>rfl
theorem zOF (A : Option mB) (c : Nat) (xs : List Int) (g : Nat) (lb : Array uB) (eg : ∀ args w, (callFunc g args).run prog w = .ok (.enter g args) w) (f : Int -> Int -> Int) (w : uA) (h : yB kG w A c xs) (h0 : 0 < xs.length) (hp : ∀ W a b, Below w.heap.size w W -> iA prog g (#[.int .i64 a, .int .i64 b] ++ lb) W fun e w' => e = .returned (.int .i64 (f a b)) /\ Below W.heap.size W w') : iA prog 251 #[.slice A xs.length c, .func (.func g) #[] lb] w fun e w' => e = .returned (.int .i64 (zEQ f xs)) /\ Below w.heap.size w w' := by
 have HI:=fA h
 have HP:=fA hp
 have hmx:=h.max
 have hb0:=xC w
 have HS:=fA (fun k (h0:0<k) (hk:k<xs.length)=>zMs f h0 hk)
 have HO:=fA (zOE f h0)
 have hn1:¬ (xs.length:Int)<1:=by omega
 obtain ⟨b,off,hA,blt,c0⟩:=uJ h h0
 subst hA
 simp only [yJ] at c0
 have h0i:(0:Int)<(xs.length:Int):=by omega
 generalize (xs[0]'h0)=x0 at *
 clear h hp
 go_enter func251,ntmps251
 go_wp2
 clear c0 blt
 go_loopw [5,6] (fun m i wr=>∃ (k:Nat) (y:Int),0<k/\k<=xs.length/\m=.int .i64 y/\i=.int .i64 (k:Int)/\jC (zEQ f (xs.take k)=y)/\Below w.heap.size w wr) (fun _ i _=>xs.length - (intOf i).toNat)
 case atStart=>exact ⟨1,x0,by omega,by omega,rfl,rfl,HO,hb0⟩
 case round =>
  clear hb0 HO
  obtain ⟨k,y,hk1,hk,rfl,rfl,HY,hw⟩:=hrel
  have hk0:(0:Int)<=(k:Int):=by omega
  by_cases hlt:k<xs.length
  ·have hk2:(k:Int)<(xs.length:Int):=by omega
   have HSK:=fA (HS.out k hk1 hlt)
   obtain ⟨b',off',hA,blt,d0⟩:=uJ (HI.out.below hw) hlt
   cases hA
   generalize (xs[k]'hlt)=x at *
   have HC:=fA (HP.out wr x y hw)
   rw [HY.out] at HSK
   generalize f x y=q at *
   by_cases hq:0<q
   all_goals have HQ:=fA hq
   ·go_wp2_with (go_at_fn g;refine HC.out.mono ?_;rintro e w1 ⟨rfl,hb1⟩;have d1:=((bcell hb1).1 b (off+k) blt).trans d0;have blt1:=tA blt hb1.size)
    go_roundw
    case rel=>exact ⟨k+1,x,by omega,by omega,rfl,by go_num,fA (by rw [HSK.out,if_pos HQ.out]),hw.trans (hb1.mono hw.size)⟩
    case measure=>simp [intOf];omega
   ·go_wp2_with (go_at_fn g;refine HC.out.mono ?_;rintro e w1 ⟨rfl,hb1⟩)
    go_roundw
    case rel=>exact ⟨k+1,y,by omega,by omega,rfl,by go_num,fA (by rw [HSK.out,if_neg (Int.not_lt.mpr HQ.out)]),hw.trans (hb1.mono hw.size)⟩
    case measure=>simp [intOf];omega
  have hk2:¬ (k:Int)<(xs.length:Int):=by omega
  have hke:k=xs.length:=by omega
  subst hke
  rw [zC (mA _)] at HY
  go_wp2
  go_ret
  exact ⟨by rw [HY.out];rfl,hw⟩
def zFQ (sh:Int -> Bool) (ld:Int -> Int) (a b:Int):Int:=if sh a && !sh b then 1 else if !sh a && sh b then -1 else zDb [gK (ld a) (ld b),gK a b]
theorem kS {p:Prop} (h:p:=by (try dsimp only);first | exact cS | exact (hcq _ b1).1 | exact (hcq _ b2).1 | exact (hcq _ b3).1 | exact (hcq _ b4).1 | exact (hcq _ b5).1 | go_keep):p:=h
theorem zLQ (S L:Nat) (lb:Array uB) (sh:Int -> Bool) (A:Option mB) (c:Nat) (ls:List Ld) (x y:Int) (w:uA) (hS:S<w.heap.size) (cS:w.cell? ⟨S,0,none⟩=yA (.func (.func 250) #[] lb)) (hL:L<w.heap.size) (cL:w.cell? ⟨L,0,none⟩=yA (.slice A ls.length c)) (h:yB zV w A c ls) (hsh:∀ W a,Below w.heap.size w W -> iA prog 250 (#[.int .i64 a] ++ lb) W fun e w'=>e=.returned (.bool (sh a))/\Below W.heap.size W w'):iA prog 252 #[x,y,(S,0),(L,0)] w fun e w'=>e=.returned (.int .i64 (zFQ sh (kF ls) x y))/\Below w.heap.size w w':=by
 have eg:=enters_of func250 (by kernel_rfl) rfl
 have HX:=fA (fun W hb=>hsh W x hb)
 have HY:=fA (fun W hb=>hsh W y hb)
 have HLX:=fA (fun W hb=>eQ A c ls x W (h.below hb))
 have HLY:=fA (fun W hb=>eQ A c ls y W (h.below hb))
 have HC1:=fA (fun W=>gP (kF ls x) (kF ls y) W)
 have HC2:=fA (fun W=>gP x y W)
 have hb:=xC w
 unfold zFQ
 clear h hsh
 generalize kF ls x=l1 at *
 generalize kF ls y=l2 at *
 generalize gK l1 l2=c1 at *
 generalize gK x y=c2 at *
 have HO:jC (∀ W B,dC W (yA ⟨B,0,none⟩) [.int .i64 c1,.int .i64 c2] -> iA prog 253 #[.slice (yA ⟨B,0,none⟩) 2 2] W fun e w'=>e=.returned (.int .i64 (zDb [c1,c2]))/\w'=W):=fA fun W B r=>zEf (yA ⟨B,0,none⟩) 2 [c1,c2] W ⟨r,mA 2,(fun e=>by cases e),show 2<=1000000 by omega⟩
 generalize zDb [c1,c2]=r at *
 generalize sh x=sx at *
 generalize sh y=sy at *
 have hcq:∀ (W:uA),Below w.heap.size w W -> W.cell? ⟨S,0,none⟩=yA (.func (.func 250) #[] lb)/\W.cell? ⟨L,0,none⟩=yA (.slice A ls.length c):=fun W hW=>⟨((bcell hW).1 S 0 hS).trans cS,((bcell hW).1 L 0 hL).trans cL⟩
 cases sx <;> cases sy
 ·go_enter func252,ntmps252
  go_wp2_with fail
  refine iC (S:=fun W:uA=>W.cell? ⟨S,0,none⟩=yA (.func (.func 250) #[] lb)) [] kS fun hH => ?_
  refine gU [100,101,103,104] ?_
  refine oU 2 fun K hK => ?_
  go_simp
  (go_at_call 250;((with_reducible refine (HX.out _ hb.drew).mono ?_);rintro e w1 ⟨rfl,hb1⟩);have b1:=(hb.drew).trans (hb1.mono (hb.drew).size))
  refine hK.out _ _ kS fun hH => ?_
  clear hK K
  try simp only [nP]
  refine oU 5 fun K hK => ?_
  go_simp
  (go_at_call 250;((with_reducible refine (HY.out _ b1).mono ?_);rintro e w2 ⟨rfl,hb2⟩);have b2:=(b1).trans (hb2.mono (b1).size))
  refine hK.out _ _ kS fun hH => ?_
  clear hK K
  try simp only [nP]
  refine gU [106,107,208,209,210,111,112,300] ?_
  go_simp
  go_wp2_with fail
  refine iC (S:=fun W:uA=>W.cell? ⟨S,0,none⟩=yA (.func (.func 250) #[] lb)) [] kS fun hH => ?_
  refine gU [100,101,103,104] ?_
  refine oU 2 fun K hK => ?_
  go_simp
  (go_at_call 250;((with_reducible refine (HX.out _ b2.drew).mono ?_);rintro e w3 ⟨rfl,hb3⟩);have b3:=(b2.drew).trans (hb3.mono (b2.drew).size))
  refine hK.out _ _ kS fun hH => ?_
  clear hK K
  try simp only [nP]
  refine oU 5 fun K hK => ?_
  go_simp
  (go_at_call 250;((with_reducible refine (HY.out _ b3).mono ?_);rintro e w4 ⟨rfl,hb4⟩);have b4:=(b3).trans (hb4.mono (b3).size))
  refine hK.out _ _ kS fun hH => ?_
  clear hK K
  try simp only [nP]
  refine gU [106,107,300] ?_
  go_simp
  go_wp2_with fail
  go_region_held3 (fun W=>W.cell? ⟨L,0,none⟩=yA (.slice A ls.length c)) (first | exact (hcq _ b4).2 | exact (hcq _ b5).2 | exact (hcq _ b6).2 | go_keep) (first
   | ((go_at_call 125;(with_reducible refine (HLX.out _ b4.drew).mono ?_);rintro e w5 ⟨rfl,hb5⟩;have b5:=b4.drew.trans (hb5.mono b4.size)))
   | ((go_at_call 125;(with_reducible refine (HLY.out _ b5).mono ?_);rintro e w6 ⟨rfl,hb6⟩;have b6:=b5.trans (hb6.mono b5.size)))
   | ((go_at_call 146;(with_reducible refine (HC1.out _).mono ?_);rintro e wx ⟨rfl,hx⟩;subst hx))
   | ((go_at_call 146;(with_reducible refine (HC2.out _).mono ?_);rintro e wx ⟨rfl,hx⟩;subst hx))
   | ((go_at_call 253;(with_reducible refine (HO.out _ _ (dC.new wx #[c1,c2] 3)).mono ?_);rintro e wy ⟨rfl,hx⟩;subst hx)))
  all_goals go_wp2
  go_ret
  exact ⟨rfl,b6.alloc b6.size _⟩
 ·go_enter func252,ntmps252
  go_wp2_with fail
  refine iC (S:=fun W:uA=>W.cell? ⟨S,0,none⟩=yA (.func (.func 250) #[] lb)) [] kS fun hH => ?_
  refine gU [100,101,103,104] ?_
  refine oU 2 fun K hK => ?_
  go_simp
  (go_at_call 250;((with_reducible refine (HX.out _ hb.drew).mono ?_);rintro e w1 ⟨rfl,hb1⟩);have b1:=(hb.drew).trans (hb1.mono (hb.drew).size))
  refine hK.out _ _ kS fun hH => ?_
  clear hK K
  try simp only [nP]
  refine oU 5 fun K hK => ?_
  go_simp
  (go_at_call 250;((with_reducible refine (HY.out _ b1).mono ?_);rintro e w2 ⟨rfl,hb2⟩);have b2:=(b1).trans (hb2.mono (b1).size))
  refine hK.out _ _ kS fun hH => ?_
  clear hK K
  try simp only [nP]
  refine gU [106,107,108,109] ?_
  refine oU 10 fun K hK => ?_
  go_simp
  (go_at_call 250;((with_reducible refine (HX.out _ b2).mono ?_);rintro e w3 ⟨rfl,hb3⟩);have b3:=(b2).trans (hb3.mono (b2).size))
  refine hK.out _ _ kS fun hH => ?_
  clear hK K
  try simp only [nP]
  refine gU [111,112,300] ?_
  go_simp
  go_wp2_with fail
  refine iC (S:=fun W:uA=>W.cell? ⟨S,0,none⟩=yA (.func (.func 250) #[] lb)) [] kS fun hH => ?_
  refine gU [100,101,103,104] ?_
  refine oU 2 fun K hK => ?_
  go_simp
  (go_at_call 250;((with_reducible refine (HX.out _ b3.drew).mono ?_);rintro e w4 ⟨rfl,hb4⟩);have b4:=(b3.drew).trans (hb4.mono (b3.drew).size))
  refine hK.out _ _ kS fun hH => ?_
  clear hK K
  try simp only [nP]
  refine oU 5 fun K hK => ?_
  go_simp
  (go_at_call 250;((with_reducible refine (HY.out _ b4).mono ?_);rintro e w5 ⟨rfl,hb5⟩);have b5:=(b4).trans (hb5.mono (b4).size))
  refine hK.out _ _ kS fun hH => ?_
  clear hK K
  try simp only [nP]
  refine gU [106,107,300] ?_
  go_simp
  go_wp2
  go_ret
  exact ⟨rfl,b5⟩
 ·go_enter func252,ntmps252
  go_wp2_with fail
  refine iC (S:=fun W:uA=>W.cell? ⟨S,0,none⟩=yA (.func (.func 250) #[] lb)) [] kS fun hH => ?_
  refine gU [100,101,103,104] ?_
  refine oU 2 fun K hK => ?_
  go_simp
  (go_at_call 250;((with_reducible refine (HX.out _ hb.drew).mono ?_);rintro e w1 ⟨rfl,hb1⟩);have b1:=(hb.drew).trans (hb1.mono (hb.drew).size))
  refine hK.out _ _ kS fun hH => ?_
  clear hK K
  try simp only [nP]
  refine oU 5 fun K hK => ?_
  go_simp
  (go_at_call 250;((with_reducible refine (HY.out _ b1).mono ?_);rintro e w2 ⟨rfl,hb2⟩);have b2:=(b1).trans (hb2.mono (b1).size))
  refine hK.out _ _ kS fun hH => ?_
  clear hK K
  try simp only [nP]
  refine gU [106,107,108,109] ?_
  refine oU 10 fun K hK => ?_
  go_simp
  (go_at_call 250;((with_reducible refine (HX.out _ b2).mono ?_);rintro e w3 ⟨rfl,hb3⟩);have b3:=(b2).trans (hb3.mono (b2).size))
  refine hK.out _ _ kS fun hH => ?_
  clear hK K
  try simp only [nP]
  refine gU [111,112,300] ?_
  go_simp
  go_wp2
  go_ret
  exact ⟨rfl,b3⟩
 ·go_enter func252,ntmps252
  go_wp2_with fail
  refine iC (S:=fun W:uA=>W.cell? ⟨S,0,none⟩=yA (.func (.func 250) #[] lb)) [] kS fun hH => ?_
  refine gU [100,101,103,104] ?_
  refine oU 2 fun K hK => ?_
  go_simp
  (go_at_call 250;((with_reducible refine (HX.out _ hb.drew).mono ?_);rintro e w1 ⟨rfl,hb1⟩);have b1:=(hb.drew).trans (hb1.mono (hb.drew).size))
  refine hK.out _ _ kS fun hH => ?_
  clear hK K
  try simp only [nP]
  refine oU 5 fun K hK => ?_
  go_simp
  (go_at_call 250;((with_reducible refine (HY.out _ b1).mono ?_);rintro e w2 ⟨rfl,hb2⟩);have b2:=(b1).trans (hb2.mono (b1).size))
  refine hK.out _ _ kS fun hH => ?_
  clear hK K
  try simp only [nP]
  refine gU [106,107,208,209,210,111,112,300] ?_
  go_simp
  go_wp2_with fail
  refine iC (S:=fun W:uA=>W.cell? ⟨S,0,none⟩=yA (.func (.func 250) #[] lb)) [] kS fun hH => ?_
  refine gU [100,101,103,104] ?_
  refine oU 2 fun K hK => ?_
  go_simp
  (go_at_call 250;((with_reducible refine (HX.out _ b2.drew).mono ?_);rintro e w3 ⟨rfl,hb3⟩);have b3:=(b2.drew).trans (hb3.mono (b2.drew).size))
  refine hK.out _ _ kS fun hH => ?_
  clear hK K
  try simp only [nP]
  refine oU 5 fun K hK => ?_
  go_simp
  (go_at_call 250;((with_reducible refine (HY.out _ b3).mono ?_);rintro e w4 ⟨rfl,hb4⟩);have b4:=(b3).trans (hb4.mono (b3).size))
  refine hK.out _ _ kS fun hH => ?_
  clear hK K
  try simp only [nP]
  refine gU [106,107,300] ?_
  go_simp
  go_wp2_with fail
  go_region_held3 (fun W=>W.cell? ⟨L,0,none⟩=yA (.slice A ls.length c)) (first | exact (hcq _ b4).2 | exact (hcq _ b5).2 | exact (hcq _ b6).2 | go_keep) (first
   | ((go_at_call 125;(with_reducible refine (HLX.out _ b4.drew).mono ?_);rintro e w5 ⟨rfl,hb5⟩;have b5:=b4.drew.trans (hb5.mono b4.size)))
   | ((go_at_call 125;(with_reducible refine (HLY.out _ b5).mono ?_);rintro e w6 ⟨rfl,hb6⟩;have b6:=b5.trans (hb6.mono b5.size)))
   | ((go_at_call 146;(with_reducible refine (HC1.out _).mono ?_);rintro e wx ⟨rfl,hx⟩;subst hx))
   | ((go_at_call 146;(with_reducible refine (HC2.out _).mono ?_);rintro e wx ⟨rfl,hx⟩;subst hx))
   | ((go_at_call 253;(with_reducible refine (HO.out _ _ (dC.new wx #[c1,c2] 3)).mono ?_);rintro e wy ⟨rfl,hx⟩;subst hx)))
  all_goals go_wp2
  go_ret
  exact ⟨rfl,b6.alloc b6.size _⟩
def copyS (r:Ru) (t:Int) (p:zAb) (x1 x2 x3 f g:Int):zAb × Bool :=
 if (jP p.1 (x1,x2,f,g,t+r.2.2.2.2.1) r.2.1 r.2.2.1).2=0 then (((jP p.1 (x1,x2,f,g,t+r.2.2.2.2.1) r.2.1 r.2.2.1).1,p.2.1,p.2.2.1 ++ [(0,x1,x2,x3,f,g,t+r.2.2.2.2.1)],p.2.2.2),true) else (p,false)
abbrev uL (a b c d e f g:Int):Obj:=.cells #[a,b,c,.int .u32 d,e,f,g] 105
theorem zDA {r:Ru} (h:vT r=true):1<=r.2.2.2.2.1/\r.2.2.2.2.1<=1048576:=by
 simp only [vT,zAS,Bool.and_eq_true,decide_eq_true_eq] at h
 omega
theorem zRJ {w:uA} {D:Nat} {c:uS} {m:uQ} (h:w.heap[D]?=yA (c.ob m)):(∀ A n k,(w.setCell ⟨D,1,none⟩ (.slice A n k)).heap[D]?=yA (zRg c.bv (.slice A n k) (.slice m.dA m.ds.length m.dc) (.slice c.nA c.ns.length c.nc) (.slice c.cA c.cs.length c.cc) c.sv c.r c.t (.slice c.vA c.al.length c.vc) (.slice c.sA c.se.length c.sc) (.slice m.oA m.os.length m.oc) (.slice m.xA m.xs.length m.xc))):=fun A n k=>by
 have:=zD (i:=1) h (.slice A n k)
 simpa [uS.ob] using this
theorem zEu (Q:Nat -> Prop) (base D:Nat) (c:uS) (m:uQ) (x1 x2 x3 f g:Int) (a:Option mB) (n k:Nat) (w:uA) (h:fW Q base w D c m) (hr:vT c.r=true) (ht:0<=c.t/\c.t<=1000000000) (hl:m.ls.length<=100) (ho:m.os.length<=100000):iA prog 183 #[.pointer (yA ⟨D,0,none⟩),.agg #[x1,x2,.int .u32 x3,.slice a n k],.int .i64 f,.int .i64 g] w fun e w'=>∃ m',e=.returned (.bool (copyS c.r c.t m.p x1 x2 x3 f g).2)/\m'.p=(copyS c.r c.t m.p x1 x2 x3 f g).1/\sG Q base D c m m' w w':=by
 have hho:=zDA hr
 have hal:=wA w (qN x1 x2 x3 a n k)
 have gB:=rB w (qN x1 x2 x3 a n k)
 have gD:=kA hal h.blk
 have d1:(w.alloc (qN x1 x2 x3 a n k)).cell? ⟨D,1,none⟩=yA (.slice m.lA m.ls.length m.lc):=jA gD 1
 have d7:(w.alloc (qN x1 x2 x3 a n k)).cell? ⟨D,7,none⟩=yA (.int .i64 c.r.2.1):=jA gD 7
 have d8:(w.alloc (qN x1 x2 x3 a n k)).cell? ⟨D,8,none⟩=yA (.int .i64 c.r.2.2.1):=jA gD 8
 have d10:(w.alloc (qN x1 x2 x3 a n k)).cell? ⟨D,10,none⟩=yA (.int .i64 c.r.2.2.2.2.1):=jA gD 10
 have d12:(w.alloc (qN x1 x2 x3 a n k)).cell? ⟨D,12,none⟩=yA (.int .i64 c.t):=jA gD 12
 obtain ⟨b0,b1,b2,b3,_⟩:=nH gB
 obtain ⟨un,hun⟩:∃ un,c.t+c.r.2.2.2.2.1=un:=⟨_,rfl⟩
 have hu0:IntKind.i64.wrap (c.t+c.r.2.2.2.2.1)=c.t+c.r.2.2.2.2.1:=oH (by omega) (by omega)
 have hu:wrap64 (c.t+c.r.2.2.2.2.1)=un:=by rw [<- hun];simp only [IntKind.wrap,wrap64] at hu0 ⊢;omega
 have HST:=fA (fun W (hb:Below w.heap.size w W)=>zKQ m.lA m.lc m.ls x1 x2 f g un c.r.2.1 c.r.2.2.1 W (yB.of_own (jB h.lo hb) (by omega)) hl)
 have HCP:jC (copyS c.r c.t m.p x1 x2 x3 f g=if (jP m.ls (x1,x2,f,g,un) c.r.2.1 c.r.2.2.1).2=0 then (((jP m.ls (x1,x2,f,g,un) c.r.2.1 c.r.2.2.1).1,m.ds,m.os ++ [(0,x1,x2,x3,f,g,un)],m.xs),true) else (m.p,false)):=fA (by rw [<- hun];rfl)
 generalize jP m.ls (x1,x2,f,g,un) c.r.2.1 c.r.2.2.1=sr at *
 obtain ⟨l2,er⟩:=sr
 simp only at HCP
 have HH:=fA h
 have HB:=fA hal
 have GB:=fA gB
 have GD:=fA gD
 have hDl:=eB gD
 have hBl:=eB gB
 clear h gB gD hal hho hun hu0
 go_enter func183,ntmps183
 go_wp2_with fail
 go_quiet (fail)
 go_wp2_with fail
 have hgD:∀ j,((w.alloc (qN x1 x2 x3 a n k)).drewN j).heap[D]?=yA (c.ob m):=fun _=>GD.out
 have hgB:∀ j,((w.alloc (qN x1 x2 x3 a n k)).drewN j).heap[w.heap.size]?=yA (qN x1 x2 x3 a n k):=fun _=>GB.out
 go_region_held3 (fun V=>V.cell? ⟨D,1,none⟩=yA (.slice m.lA m.ls.length m.lc)/\V.cell? ⟨w.heap.size,0,none⟩=yA (.int .i64 x1)/\V.cell? ⟨w.heap.size,1,none⟩=yA (.int .i64 x2)/\V.cell? ⟨D,7,none⟩=yA (.int .i64 c.r.2.1)/\V.cell? ⟨D,8,none⟩=yA (.int .i64 c.r.2.2.1)) (first | exact ⟨d1,b0,b1,d7,d8⟩ | exact ⟨p1,q0,q1,p7,p8⟩ | go_keep) (first
  | (go_at_call 247;((with_reducible refine (HST.out _ (Below.many HB.out _)).mono ?_);rintro e w2 ⟨A2,c2,rfl,own2,hb2⟩);have b2:=(Below.many HB.out _).trans (hb2.mono HB.out.size);have gD2:=kA hb2 (hgD _);have gB2:=kA hb2 (hgB _);have p1:=jA gD2 1;have p7:=jA gD2 7;have p8:=jA gD2 8;have q0:=jA gB2 0;have q1:=jA gB2 1))
 by_cases her:er=0
 ·subst her
  have HC2:jC (copyS c.r c.t m.p x1 x2 x3 f g=((l2,m.ds,m.os ++ [(0,x1,x2,x3,f,g,un)],m.xs),true)):=fA (by rw [HCP.out,if_pos rfl])
  have GD3:=fA (zRJ gD2 A2 l2.length c2)
  have gD3:=GD3.out
  have hDB:D≠w.heap.size:=by have:=eB HH.out.blk;omega
  have gB3:=pC gB2 (Ne.symm hDB) (i:=1) (.slice A2 l2.length c2)
  have f1:=qB gD2 1
  have C3:fD [D] w (w2.setCell ⟨D,1,none⟩ (.slice A2 l2.length c2)):=(fD.of_below b2).setCell (.inl (by simp)) _ _
  have hsz3:w2.heap.size=(w2.setCell ⟨D,1,none⟩ (.slice A2 l2.length c2)).heap.size:=by simp [World.setCell]
  have own3:=rE own2 (b:=D) (fun x hx he=>by have h1:=(qC own2 x hx).1;have h2:=eB GD.out;rw [he] at h1;have h3:(w.alloc (qN x1 x2 x3 a n k)).heap.size<=D:=h1;omega) 1 (.slice A2 l2.length c2)
  have hDs:∀ A,D ∉ zB A -> ∀ x ∈ zB A,x ∉ [D]:=fun A hA x hx hs=>hA (by rw [xB] at hs;rw [<- hs];exact hx)
  have had:D ∉ zB m.dA/\D ∉ zB m.oA/\D ∉ zB m.xA:=by have:=HH.out.ad;simpa [not_or] using this
  have k2:=fun x hx=>qC own2 x hx
  have hw2:w.heap.size<w2.heap.size:=by have:=hb2.size;have h3:(w.alloc (qN x1 x2 x3 a n k)).heap.size<=w2.heap.size:=this;have:=eB GB.out;omega
  have hge:∀ x ∈ zB A2,w.heap.size<x/\x<w2.heap.size:=fun x hx=>by have h1:=k2 x hx;have h3:(w.alloc (qN x1 x2 x3 a n k)).heap.size<=x:=h1.1;have:=eB GB.out;omega
  go_upto_region 6 with fail
  generalize hw3:w2.setCell ⟨D,1,none⟩ (.slice A2 l2.length c2)=w3 at *
  have hs3:w3.heap.size=w2.heap.size:=hsz3.symm
  have HS3:=fA hs3
  have HW3:=fA hw3
  clear hs3 hsz3 hw3
  have HDl:=fA (eB HH.out.blk)
  have hoo:=xE HH.out.oo C3 (hDs _ had.2.1)
  have OO:=fA hoo
  have hal3:=wA w3 (uL 0 x1 x2 x3 f g un)
  have gD4:=iB (kA hal3 gD3)
  have gB4:=iB (kA hal3 gB3)
  have e15:w3.drew.cell? ⟨D,15,none⟩=yA (.slice m.oA m.os.length m.oc):=jA (iB gD3) 15
  have r0:w3.drew.cell? ⟨w.heap.size,0,none⟩=yA (.int .i64 x1):=jA (iB gB3) 0
  have r1:w3.drew.cell? ⟨w.heap.size,1,none⟩=yA (.int .i64 x2):=jA (iB gB3) 1
  have r2:w3.drew.cell? ⟨w.heap.size,2,none⟩=yA (.int .u32 x3):=jA (iB gB3) 2
  have f15:(w3.alloc (uL 0 x1 x2 x3 f g un)).drew.cell? ⟨D,15,none⟩=yA (.slice m.oA m.os.length m.oc):=jA gD4 15
  have s0:(w3.alloc (uL 0 x1 x2 x3 f g un)).drew.cell? ⟨w.heap.size,0,none⟩=yA (.int .i64 x1):=jA gB4 0
  have s1:(w3.alloc (uL 0 x1 x2 x3 f g un)).drew.cell? ⟨w.heap.size,1,none⟩=yA (.int .i64 x2):=jA gB4 1
  have s2:(w3.alloc (uL 0 x1 x2 x3 f g un)).drew.cell? ⟨w.heap.size,2,none⟩=yA (.int .u32 x3):=jA gB4 2
  refine iC (S:=fun V:uA=>V.cell? ⟨D,15,none⟩=yA (.slice m.oA m.os.length m.oc)/\V.cell? ⟨w.heap.size,0,none⟩=yA (.int .i64 x1)/\V.cell? ⟨w.heap.size,1,none⟩=yA (.int .i64 x2)/\V.cell? ⟨w.heap.size,2,none⟩=yA (.int .u32 x3)) [17,18,19] ⟨e15,r0,r1,r2⟩ fun hH => ?_
  refine gU [0,1,2,3,104,5,106,7,108,9,110,11,12,13,14] ?_
  refine oU 15 fun K hK => ?_
  go_simp
  refine hK.out _ _ (⟨f15,s0,s1,s2⟩) fun hH => ?_
  clear hK K
  refine oU 16 fun K hK => ?_
  refine tG (.tmp 60) (.tmp 71) rfl cO base (.slice m.oA m.os.length m.oc) m.os.length (flat qL m.os) (by rfl) (sI (jB OO.out hal3)) (yA ⟨w3.heap.size,0,none⟩) 1 1 (qL (0,x1,x2,x3,f,g,un)) (by rfl) rfl (dC.drew (dC.new w3 _ _)) (tS _) (by unfold fC;omega) (by omega) (pA HH.out.hb.2 (pA C3.size hal3.size)) (fun h=>by cases h) fun A5 c5 w5 own5 hg5 hat5 => ?_
  have C5:=tE hg5
  have at5:=wF hat5
  have kDo:D ∉ zB m.oA:=had.2.1
  have kBo:w.heap.size ∉ zB m.oA:=fun hc=>by have:=(qC HH.out.oo _ hc).2;omega
  have gD5:=C5.keep gD4 kDo
  have gB5:=C5.keep gB4 kBo
  have g15:w5.cell? ⟨D,15,none⟩=yA (.slice m.oA m.os.length m.oc):=jA gD5 15
  have g15f:=qB gD5 15
  have t0:w5.cell? ⟨w.heap.size,0,none⟩=yA (.int .i64 x1):=jA gB5 0
  have t1:w5.cell? ⟨w.heap.size,1,none⟩=yA (.int .i64 x2):=jA gB5 1
  have t2:w5.cell? ⟨w.heap.size,2,none⟩=yA (.int .u32 x3):=jA gB5 2
  have hD5:=eB gD5
  refine hK.out _ _ (⟨g15,t0,t1,t2⟩) fun hH => ?_
  clear hK K
  refine tU 17 fun K hK => ?_
  go_simp
  refine hK.out _ _ ?_
  clear hK K
  refine tU 18 fun K hK => ?_
  go_simp
  refine hK.out _ _ ?_
  clear hK K
  refine tU 19 fun K hK => ?_
  go_simp
  refine hK.out _ _ ?_
  clear hK K
  refine gU [300] ?_
  go_simp
  go_wp2
  go_ret
  have hsz:=HS3.out
  have hw5:w3.heap.size+1<=w5.heap.size:=by have:=C5.size;simpa using this
  have hcs:∀ A,D ∉ zB A -> ∀ x ∈ zB A,x≠D:=fun A hA x hx he=>hA (by rw [<- he];exact hx)
  have hC6:fD (m.S D) w (w5.setCell ⟨D,15,none⟩ (.slice A5 (m.os.length+1) c5)):=(((C3.mono (T:=m.S D) (fun x hx=>.inl (by rw [xB] at hx;rw [hx,uQ.inS];exact .inl rfl))).below hal3).drew.trans C5 (fun x hx=>.inl (uQ.inS.2 (.inr (.inr (.inl hx)))))).setCell (.inl (uQ.inS.2 (.inl rfl))) _ _
  have hnl:=HH.out.ao
  have hmv:∀ {e:TypeId} {k q c:Nat} {A:Option mB} {xs:List uB},w.ownsRow base e k (.slice A q c) q xs -> D ∉ zB A -> (∀ x ∈ zB A,x ∉ zB m.oA) -> (w5.setCell ⟨D,15,none⟩ (.slice A5 (m.os.length+1) c5)).ownsRow base e k (.slice A q c) q xs:=fun h h1 h2=>rE (xE (sI (jB (xE h C3 (hDs _ h1)) hal3)) C5 h2) (hcs _ h1) 15 _
  refine ⟨by rw [HC2.out];rfl,{ m with ls:=l2,lA:=A2,lc:=c2,os:=m.os ++ [(0,x1,x2,x3,f,g,un)],oA:=A5,oc:=c5 },by rw [HC2.out];rfl,HH.out.upd hC6 ?_ ?_ ?_ ?_ ?_ (l0:=w.heap.size) (l1:=w2.heap.size) (d0:=w.heap.size) (d1:=w.heap.size) (o0:=w3.heap.size) (o1:=w5.heap.size) (x0:=w.heap.size) (x1:=w.heap.size) (fun x hx=>.inr (by have:=hge x hx;omega)) (fun x hx=>.inl hx) (fun x hx=>by rcases at5 x hx with q | q;exact .inl q;exact .inr ⟨by have h1:(w3.alloc (uL 0 x1 x2 x3 f g un)).heap.size<=x:=q;rw [wB] at h1;omega,(qC own5 x hx).2⟩) (fun x hx=>.inl hx) (by omega) (by omega)⟩
  ·have:=zD (i:=15) gD5 (.slice A5 (m.os.length+1) c5)
   simpa [uS.ob] using this
  ·refine rE (xE (sI (jB (oC own3 ?_) hal3)) C5 (fun x hx hc => ?_)) (hcs _ (fun hc => ?_)) 15 _
   ·have h1:=HH.out.hb.2;have h2:=HB.out.size;exact pA h1 h2
   ·have h1:=hge x hx;have h2:=(qC HH.out.oo x hc).2;omega
   ·have h1:=hge D hc;have h2:=HDl.out;omega
  ·exact hmv HH.out.dr had.1 (fun x hx hc=>HH.out.ao x hx (List.mem_append_left _ hc))
  ·have h1:(m.os ++ [(0,x1,x2,x3,f,g,un)]).length=m.os.length+1:=by simp
   rw [h1,uD]
   refine rE own5 (fun x hx he => ?_) 15 _
   rcases at5 x hx with q | q
   ·exact kDo (by rw [<- he];exact q)
   ·have h1:(w3.alloc (uL 0 x1 x2 x3 f g un)).heap.size<=x:=q;rw [wB] at h1;have:=HDl.out;omega
  ·exact hmv HH.out.xo had.2.2 (fun x hx hc=>HH.out.ax x hc hx)
 ·have HC2:jC (copyS c.r c.t m.p x1 x2 x3 f g=(m.p,false)):=fA (by rw [HCP.out,if_neg her])
  go_wp2
  go_ret
  exact ⟨m,by rw [HC2.out];rfl,by rw [HC2.out],sG.refl HH.out b2⟩
theorem uH.up {w:uA} {M n:Nat} {l:List (Int × uB)} (hm:uH w M n l) {t e:TypeId} (ht:(prog).underlying t=yA (.map 3 e)) (i:Int) (hw:(Lit.int .i64 i).wf=true) (u:uB) (hl:n<fC) :
  ∃ w',(Instr.mapUpdate t (.map (yA M)) (.int .i64 i) u).run prog w=.ok () w'/\uH w' M (n+1) ((i,u) :: l)/\fD [M] w w':=by
 obtain ⟨w',hrun,h2,h3⟩:=rM hm zDu ht hl (zBA hw) (val:=u) (d:=.held u) (ps:=[]) rfl
 exact ⟨w',hrun,h2,qP h3⟩
def cI (hs:List Int) (ns:List Nd) (alive:List Int) (ls:List Ld) (want:Int):Int × Bool :=
 if want<1\/((mM hs ns alive).length:Int)<want then (0,false) else if 0<(zAy hs ns alive).length then ((zAy hs ns alive).getD 0 0,true) else if ((mM hs ns alive).length:Int)=want then (0,false) else (zEQ (zFQ (zCJ ns (mM hs ns alive).reverse) (kF ls)) (mM hs ns alive),true)
theorem zOT (ns:List Nd) (l:List Int) {k:Nat} (hk:k<l.length):zQG ns (l.take (k+1)).reverse=(bK ns (l[k]'hk),.int .i64 ((zFt ns (l.take k).reverse (bK ns (l[k]'hk)):Int)+1)) :: zQG ns (l.take k).reverse:=by
 rw [tB hk,List.reverse_append]
 rfl
theorem zJT (x1 x2 x3:Int) (a:Option mB) (cc:Nat) (hs:List Int) (N:Option mB) (nc:Nat) (ns:List Nd) (A:Option mB) (c:Nat) (alive:List Int) (L:Option mB) (lc:Nat) (ls:List Ld) (want:Int) (w:uA) (h:yB kG w a cc hs) (kn:yB qH w N nc ns) (k:yB kG w A c alive) (kl:yB zV w L lc ls) (hm:hs.length<=1000):iA prog 184 #[.agg #[x1,x2,.int .u32 x3,.slice a hs.length cc],.slice N ns.length nc,.slice A alive.length c,.slice L ls.length lc,.int .i64 want] w fun e w'=>e=.returned (.tuple #[.int .i64 (cI hs ns alive ls want).1,.bool (cI hs ns alive ls want).2])/\Below w.heap.size w w':=by
 obtain ⟨W,hW⟩:∃ W,W=((w.alloc (qN x1 x2 x3 a hs.length cc)).alloc (.cells #[.slice N ns.length nc] 47)).alloc (.cells #[.slice L ls.length lc] 115):=⟨_,rfl⟩
 obtain ⟨⟨g1,g2,g3⟩,hsz,hb⟩:=zGH w (qN x1 x2 x3 a hs.length cc) (.cells #[.slice N ns.length nc] 47) (.cells #[.slice L ls.length lc] 115)
 rw [<- hW] at g1 g2 g3 hsz hb
 have HG:=fA (fun W' (hb':Below w.heap.size w W')=>zIf x1 x2 x3 a cc hs N nc ns A c alive W' (h.below hb') (k.below hb') (kn.below hb'))
 have HID:=fA (fun W' (hb':Below w.heap.size w W')=>zOk x1 x2 x3 a cc hs N nc ns A c alive W' (h.below hb') (k.below hb') (kn.below hb'))
 have HR:=fA (fun id W' (hb':Below w.heap.size w W')=>zIH N nc ns id W' (kn.below hb'))
 have hgl:(mM hs ns alive).length<=1000:=pA (wJ _ _) (pA (xX hs alive) hm)
 have HZ:jC ((want<1 -> cI hs ns alive ls want=(0,false))/\(¬ want<1 -> ((mM hs ns alive).length:Int)<want -> cI hs ns alive ls want=(0,false))/\(¬ want<1 -> ¬ ((mM hs ns alive).length:Int)<want -> 0<(zAy hs ns alive).length -> cI hs ns alive ls want=((zAy hs ns alive).getD 0 0,true))/\(¬ want<1 -> ¬ ((mM hs ns alive).length:Int)<want -> ¬ 0<(zAy hs ns alive).length -> ((mM hs ns alive).length:Int)=want -> cI hs ns alive ls want=(0,false))/\(¬ want<1 -> ¬ ((mM hs ns alive).length:Int)<want -> ¬ 0<(zAy hs ns alive).length -> ¬ ((mM hs ns alive).length:Int)=want -> cI hs ns alive ls want=(zEQ (zFQ (zCJ ns (mM hs ns alive).reverse) (kF ls)) (mM hs ns alive),true))):=fA (by
  unfold cI
  refine ⟨fun h=>if_pos (.inl h),fun _ h=>if_pos (.inr h),fun h1 h2 h3 => ?_,fun h1 h2 h3 h4 => ?_,fun h1 h2 h3 h4 => ?_⟩
  ·rw [if_neg (not_or.mpr ⟨h1,h2⟩),if_pos h3]
  ·rw [if_neg (not_or.mpr ⟨h1,h2⟩),if_neg h3,if_pos h4]
  ·rw [if_neg (not_or.mpr ⟨h1,h2⟩),if_neg h3,if_neg h4])
 have HKN:=fA kn
 have HKL:=fA kl
 have HW:=fA hW
 have HSZ:=fA hsz
 have G1:=fA g1
 have G2:=fA g2
 have G3:=fA g3
 have HONS:=fA (fun k (hk:k<(mM hs ns alive).length)=>zOT ns (mM hs ns alive) hk)
 generalize cI hs ns alive ls want=r at *
 obtain ⟨r1,r2⟩:=r
 clear h kn k kl g1 g2 g3 hW hsz
 have hil:(zAy hs ns alive).length<=1000:=pA (wJ _ _) hm
 generalize mM hs ns alive=gs at *
 generalize zAy hs ns alive=is at *
 by_cases h1:want<1
 ·obtain ⟨rfl,rfl⟩:=zX (HZ.out.1 h1)
  go_enter func184,ntmps184
  go_wp2_with (go_at_call 174;rw [<- HW.out];refine (HG.out _ hb).mono ?_;rintro e w1 ⟨A1,c1,rfl,own1,hb1⟩)
  go_ret2
  exact ⟨rfl,hb.trans (hb1.mono hb.size)⟩
 have h1':1<=want:=by omega
 by_cases h2:(gs.length:Int)<want
 ·obtain ⟨rfl,rfl⟩:=zX (HZ.out.2.1 h1 h2)
  go_enter func184,ntmps184
  go_wp2_with (go_at_call 174;rw [<- HW.out];refine (HG.out _ hb).mono ?_;rintro e w1 ⟨A1,c1,rfl,own1,hb1⟩)
  go_ret2
  exact ⟨rfl,hb.trans (hb1.mono hb.size)⟩
 by_cases h3:0<is.length
 ·obtain ⟨rfl,rfl⟩:=zX (HZ.out.2.2.1 h1 h2 h3)
  have h3i:(0:Int)<(is.length:Int):=by omega
  rw [List.getD_eq_getElem?_getD,List.getElem?_eq_getElem h3,Option.getD_some]
  go_enter func184,ntmps184
  go_wp2_with (first
   | (go_at_call 174;rw [<- HW.out];refine (HG.out _ hb).mono ?_;rintro e w1 ⟨A1,c1,rfl,own1,hb1⟩;have b1:=hb.trans (hb1.mono hb.size);obtain ⟨p0,p1,p2,p3,_⟩:=nH (kA hb1 G1.out);have q0:=jA (kA hb1 G2.out) 0)
   | (go_at_call 248;refine (HID.out _ b1).mono ?_;rintro e w2 ⟨A2,c2,rfl,own2,hb2⟩;have b2:=b1.trans (hb2.mono b1.size);obtain ⟨b,off,hA2,blt,u0⟩:=uJ (yB.of_own (enc:=kG) own2 (by omega)) h3;subst hA2;simp only [yJ] at u0))
  go_ret2
  exact ⟨rfl,b2⟩
 by_cases h4:(gs.length:Int)=want
 ·obtain ⟨rfl,rfl⟩:=zX (HZ.out.2.2.2.1 h1 h2 h3 h4)
  have h3i:¬ (0:Int)<(is.length:Int):=by omega
  go_enter func184,ntmps184
  go_wp2_with (first
   | (go_at_call 174;rw [<- HW.out];refine (HG.out _ hb).mono ?_;rintro e w1 ⟨A1,c1,rfl,own1,hb1⟩;have b1:=hb.trans (hb1.mono hb.size);obtain ⟨p0,p1,p2,p3,_⟩:=nH (kA hb1 G1.out);have q0:=jA (kA hb1 G2.out) 0)
   | (go_at_call 248;refine (HID.out _ b1).mono ?_;rintro e w2 ⟨A2,c2,rfl,own2,hb2⟩;have b2:=b1.trans (hb2.mono b1.size)))
  go_ret2
  exact ⟨rfl,b2⟩
 obtain ⟨rfl,rfl⟩:=zX (HZ.out.2.2.2.2 h1 h2 h3 h4)
 have h3i:¬ (0:Int)<(is.length:Int):=by omega
 have hgp:0<gs.length:=by omega
 have h4b:((gs.length:Int) == want)=false:=by simp [h4]
 have hmm:=@run_makeMap prog
 go_enter func184,ntmps184
 go_wp2_with (first
   | (go_at_call 174;rw [<- HW.out];refine (HG.out _ hb).mono ?_;rintro e w1 ⟨A1,c1,rfl,own1,hb1⟩;have b1:=hb.trans (hb1.mono hb.size);obtain ⟨p0,p1,p2,p3,_⟩:=nH (kA hb1 G1.out);have q0:=jA (kA hb1 G2.out) 0)
   | (go_at_call 248;refine (HID.out _ b1).mono ?_;rintro e w2 ⟨A2,c2,rfl,own2,hb2⟩;have b2:=b1.trans (hb2.mono b1.size)))
 clear p0 p1 p2 p3
 have hm0:=fA ((uH.made w2).alloc (.cells #[.map (yA w2.heap.size)] 343))
 have gB0:((w2.alloc (.map #[] 0)).alloc (.cells #[.map (yA w2.heap.size)] 343)).heap[w2.heap.size+1]?=yA (.cells #[.map (yA w2.heap.size)] 343):=sF _ _ _
 have GB0:=fA gB0
 have hbz:=yI w2 (.map #[] 0) (.cells #[.map (yA w2.heap.size)] 343)
 have HI:=fA (yB.below (yB.of_own (enc:=kG) own1 (by omega)) (hb2.trans (hbz.mono hb2.size)))
 have hQl:w.heap.size+1<w2.heap.size:=by have:=HSZ.out;have:=hb1.size;have:=hb2.size;omega
 have Q0:=fA ((bcell hb2).1 (w.heap.size+1) 0 (by have:=HSZ.out;have:=hb1.size;omega) |>.trans q0)
 have HA1:jC (∀ x ∈ zB A1,x<w2.heap.size):=fA (fun x hx=>by have:=(qC own1 x hx).2;have:=hb2.size;omega)
 have Q3:=fA (kA (hb1.trans (hb2.mono hb1.size)) G3.out)
 clear gB0 q0 hb1 hb2 own1 own2
 go_loopw [16,47] (fun v16 i wr=>∃ (k n:Nat),k<=gs.length/\i=.int .i64 (k:Int)/\n<=k/\jC (uH wr w2.heap.size n (zQG ns (gs.take k).reverse))/\jC (wr.heap[w2.heap.size+1]?=yA (.cells #[.map (yA w2.heap.size)] 343))/\Below w2.heap.size w2 wr/\jC (yB kG wr A1 c1 gs)) (fun _ i _=>gs.length - (intOf i).toNat)
 case atStart=>exact ⟨0,0,by omega,rfl,by omega,hm0,GB0,hbz,HI⟩
 case round =>
  clear hm0 GB0 hbz HI
  obtain ⟨k,n,hk,rfl,hnk,HM,GB,hw,HI⟩:=hrel
  have hk0:(0:Int)<=(k:Int):=by omega
  have hwr:=b2.trans (hw.mono b2.size)
  by_cases hlt:k<gs.length
  ·have hk1:(k:Int)<(gs.length:Int):=by omega
   have HS:=fA (HONS.out k hlt)
   obtain ⟨b,off,hA1,blt,c0⟩:=uJ HI.out hlt
   subst hA1
   generalize (gs[k]'hlt)=x at *
   have HRX:=fA (HR.out x)
   have hwf:=zDf ns x
   have cB:=jA GB.out 0
   have cQ:=((bcell hw).1 (w.heap.size+1) 0 hQl).trans Q0.out
   have hQl2:=tA hQl hw.size
   have hBl:=eB GB.out
   have HLK:jC (∀ W m,uH W w2.heap.size m (zQG ns (gs.take k).reverse) -> (eE 343 (.map (yA w2.heap.size)) (.int .i64 (bK ns x)) false).run prog W=.ok (.int .i64 (zFt ns (gs.take k).reverse (bK ns x):Int)) W):=fA fun W m hm=>by
    rw [<- zEU ns (bK ns x) (gs.take k).reverse]
    exact uH.look hm zCe (z:=.int .i64 0) (by kernel_rfl) (bK ns x) hwf
   have hcl:=zQm ns (gs.take k).reverse (bK ns x)
   rw [List.length_reverse,List.length_take] at hcl
   generalize (zFt ns (gs.take k).reverse (bK ns x))=ct at *
   generalize bK ns x=rk at *
   generalize zQG ns (gs.take k).reverse=l at *
   have hwr1:IntKind.i64.wrap ((ct:Int)+1)=(ct:Int)+1:=oH (by omega) (by omega)
   go_upto_region 13 with fail
   go_region_law (first
    | ((try go_simp);go_at_call 249;((with_reducible refine (HRX.out _ hwr.drew).mono ?_);rintro e w3 ⟨rfl,hb3⟩);have hb3':Below wr.heap.size wr w3:=⟨hb3.os,hb3.tape,hb3.output,hb3.size,hb3.block⟩;have HM3:=fA (HM.out.below hb3');have g3:=kA hb3' GB.out;have e0:=jA g3 0;have e1:=((bcell hb3').1 (w.heap.size+1) 0 hQl2).trans cQ;have hw3:=hw.trans (hb3'.mono hw.size);have hlk3:=HLK.out _ _ HM3.out;obtain ⟨w4,hrun4,hm4,hc4⟩:=HM3.out.up zCe rk hwf (.int .i64 ((ct:Int)+1)) (by unfold fC;omega);(try go_simp)))
   all_goals go_wp2
   all_goals go_roundw
   all_goals first
    | exact ⟨k+1,n+1,by omega,by go_num,by omega,fA (by rw [HS.out];exact hm4),fA (hc4.keep g3 (by simp)),hw3.trans (hc4.to_below (by simp) hw3.size),fA ((HI.out.below hb3').chg hc4 (fun x hx hc=>by have:=HA1.out x hx;simp at hc;omega))⟩
    | (simp [intOf];omega)
  ·have hk1:¬ (k:Int)<(gs.length:Int):=by omega
   have hke:k=gs.length:=by omega
   subst hke
   rw [zC (mA _)] at HM
   have gF:=rB wr (.cells #[.func (.func 250) #[] #[.pointer (yA ⟨w2.heap.size+1,0,none⟩),.pointer (yA ⟨w.heap.size+1,0,none⟩)]] 42)
   have hbf:=wA wr (.cells #[.func (.func 250) #[] #[.pointer (yA ⟨w2.heap.size+1,0,none⟩),.pointer (yA ⟨w.heap.size+1,0,none⟩)]] 42)
   have HCM:jC (∀ (WB W':uA) (a b:Int),Below wr.heap.size wr WB -> WB.heap[wr.heap.size]?=yA (.cells #[.func (.func 250) #[] #[.pointer (yA ⟨w2.heap.size+1,0,none⟩),.pointer (yA ⟨w.heap.size+1,0,none⟩)]] 42) -> Below WB.heap.size WB W' -> iA prog 252 (#[.int .i64 a,.int .i64 b] ++ #[.pointer (yA ⟨wr.heap.size,0,none⟩),.pointer (yA ⟨w.heap.size+1+1,0,none⟩)]) W' fun e w'=>e=.returned (.int .i64 (zFQ (zCJ ns gs.reverse) (kF ls) a b))/\Below W'.heap.size W' w'):=fA fun WB W' a b hWB gW hW'=>by
    have hr:=hWB.trans (hW'.mono hWB.size)
    have g:=kA hW' gW
    have gL:=kA ((hw.trans (hr.mono hw.size))) Q3.out
    exact zLQ wr.heap.size (w.heap.size+1+1) #[.pointer (yA ⟨w2.heap.size+1,0,none⟩),.pointer (yA ⟨w.heap.size+1,0,none⟩)] (zCJ ns gs.reverse) L lc ls a b W' (eB g) (jA g 0) (eB gL) (jA gL 0) (HKL.out.below (b2.trans ((hw.trans (hr.mono hw.size)).mono b2.size))) fun W2 x hW2=>by
     have hr2:=hr.trans (hW2.mono hr.size)
     have h2w:=hw.trans (hr2.mono hw.size)
     have gB:=kA hr2 GB.out
     exact zMQ (w2.heap.size+1) (w.heap.size+1) w2.heap.size n N nc ns gs.reverse x W2 (eB gB) (jA gB 0) (tA hQl h2w.size) (((bcell h2w).1 (w.heap.size+1) 0 hQl).trans Q0.out) (HKN.out.below (b2.trans (h2w.mono b2.size))) (HM.out.below hr2)
   have HMX:=fA (zOF A1 c1 gs 252 #[.pointer (yA ⟨wr.heap.size,0,none⟩),.pointer (yA ⟨w.heap.size+1+1,0,none⟩)] (enters_of func252 (by kernel_rfl) rfl) (zFQ (zCJ ns gs.reverse) (kF ls)) _ (HI.out.below hbf) hgp (fun W' a b hb'=>HCM.out _ W' a b hbf gF hb'))
   have hwr:=b2.trans (hw.mono b2.size)
   go_wp2_with (go_at_call 251;refine HMX.out.mono ?_;rintro e w7 ⟨rfl,hb7⟩)
   go_ret2
   exact ⟨rfl,hwr.trans ((hbf.trans (hb7.mono hbf.size)).mono hwr.size)⟩
end Go.Proofs.YtogbpifcmhafkaaGreat
