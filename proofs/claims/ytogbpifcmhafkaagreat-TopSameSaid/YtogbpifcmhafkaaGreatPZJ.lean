/-
 Part PZJ of the proof.
-/
import Derived.Test.YtogbpifcmhafkaaGreatPZF
import Derived.Laws.ResultCell
open And renaming intro->gG
open Go renaming Addr->mB,World->uA,results_cell_tmp->nZ,undef->vB
open Go.Lib renaming hid->fA
open Go.RowKit renaming Hid->jC
open Go.RowKit.Below renaming refl->cC
open Go.World renaming cell?_setCell_far->oE,size_alloc->wB
open List renaming length_set->lD
open Nat renaming le_trans->pA,zero_add->bD,zero_mul->qR
open Option renaming some->yA
namespace Go.Proofs.YtogbpifcmhafkaaGreat
open Go.RowKit Tryz
open Go.Lib(hid)
set_option linter.unusedVariables false
set_option linter.unusedSimpArgs false
set_option maxRecDepth 100000
set_option maxHeartbeats 16000000
def zIU (xs:List Ne) (l k:Nat):Nat:=if k<xs.length/\dZ (xs.getD k (0,0,0)) (xs.getD l (0,0,0))<0 then k else l
def lF (xs:List Ne) (i:Nat):Nat -> Nat
 | 0=>i
 | k+1=>zIU xs (lF xs i k) (2 * i+1+k)
def vR:Nat -> List Ne -> Nat -> List Ne
 | 0,xs,_=>xs
 | f+1,xs,i=>if lF xs i 2=i then xs else vR f (iQ xs i (lF xs i 2)) (lF xs i 2)
theorem zQr (f:Nat) {xs:List Ne} {i:Nat} (h:lF xs i 2=i):vR f xs i=xs:=by
 cases f with
 | zero=>rfl
 | succ f=>unfold vR;rw [if_pos h]
theorem dn_go {f:Nat} {xs:List Ne} {i:Nat} (hf:xs.length<=i+f) (hi:i<xs.length) (h:lF xs i 2≠i):vR f xs i=vR (f - 1) (iQ xs i (lF xs i 2)) (lF xs i 2):=by
 match f,hf with
 | 0,hf=>omega
 | f+1,hf=>rw [vR,if_neg h];rfl
theorem zRN {w0 w:uA} {S:List Nat} {g:Nat} (h:fD S w0 w) (hg:g ∈ S) (i j:Nat) (x1 x2 x3 y1 y2 y3:Int):fD S w0 (((((((w.setCell ⟨g,i * 3,none⟩ (.int .i64 y1)).setCell ⟨g,i * 3+1,none⟩ (.int .i64 y2)).setCell ⟨g,i * 3+2,none⟩ (.int .i64 y3)).setCell ⟨g,j * 3,none⟩ (.int .i64 x1)).setCell ⟨g,j * 3+1,none⟩ (.int .i64 x2)).setCell ⟨g,j * 3+2,none⟩ (.int .i64 x3)).drew) :=
 ((((((h.setCell (.inl hg) (i * 3) _).setCell (.inl hg) (i * 3+1) _).setCell (.inl hg) (i * 3+2) _).setCell (.inl hg) (j * 3) _).setCell (.inl hg) (j * 3+1) _).setCell (.inl hg) (j * 3+2) _).drew
theorem yX {xs:List Ne} {i:Nat} (hi:i<xs.length):xs.getD i (0,0,0)=xs[i]'hi:=by rw [List.getD_eq_getElem?_getD,List.getElem?_eq_getElem hi];rfl
def zFB (Q base n:Nat) (A:Option mB) (c:Nat) (g:Nat -> List Ne -> Nat -> List Ne) (out:List Ne) (w:uA) (a':Act) (wr:uA):Prop :=
 ∃ (i f:Nat) (xs:List Ne) (u:Nat -> Value),jC (xs.length=n)/\(i<=n/\n<=i+f)/\jC (g f xs i=out)/\jC (yN wr Q base A c xs)/\fD (zB A) w wr/\a'={ tmps:=#[.pointer (yA ⟨Q,0,none⟩),vB,.int .i64 (i:Int),u 3,u 4,u 5,u 6,u 7,u 8,u 9,u 10,u 11,u 12,u 13,u 14,u 15,u 16,u 17,u 18,u 19,u 20,u 21,u 22,u 23,u 24,u 25,u 26,u 27,u 28,u 29,u 30,u 31,u 32,u 33,u 34,u 35,u 36,u 37,u 38,u 39,u 40,u 41,u 42,u 43,u 44,u 45,u 46,u 47,u 48,u 49,u 50,u 51,u 52,u 53,u 54,u 55,u 56,u 57,u 58,u 59,u 60,u 61,u 62,u 63,u 64,u 65,u 66,u 67,u 68,u 69,u 70,u 71,u 72,u 73,u 74,u 75,u 76],defers:=[] }
theorem zFB.mk {Q base n:Nat} {A:Option mB} {c:Nat} {g:Nat -> List Ne -> Nat -> List Ne} {out:List Ne} {w:uA} {a':Act} {wr:uA} {i f:Nat} {xs:List Ne} (h1:xs.length=n) (h2:(i<=n/\n<=i+f)) (h3:g f xs i=out) (h4:yN wr Q base A c xs) (h5:fD (zB A) w wr)
  (h6:a'={ tmps:=#[.pointer (yA ⟨Q,0,none⟩),vB,.int .i64 (i:Int),a'.tmps.getD 3 vB,a'.tmps.getD 4 vB,a'.tmps.getD 5 vB,a'.tmps.getD 6 vB,a'.tmps.getD 7 vB,a'.tmps.getD 8 vB,a'.tmps.getD 9 vB,a'.tmps.getD 10 vB,a'.tmps.getD 11 vB,a'.tmps.getD 12 vB,a'.tmps.getD 13 vB,a'.tmps.getD 14 vB,a'.tmps.getD 15 vB,a'.tmps.getD 16 vB,a'.tmps.getD 17 vB,a'.tmps.getD 18 vB,a'.tmps.getD 19 vB,a'.tmps.getD 20 vB,a'.tmps.getD 21 vB,a'.tmps.getD 22 vB,a'.tmps.getD 23 vB,a'.tmps.getD 24 vB,a'.tmps.getD 25 vB,a'.tmps.getD 26 vB,a'.tmps.getD 27 vB,a'.tmps.getD 28 vB,a'.tmps.getD 29 vB,a'.tmps.getD 30 vB,a'.tmps.getD 31 vB,a'.tmps.getD 32 vB,a'.tmps.getD 33 vB,a'.tmps.getD 34 vB,a'.tmps.getD 35 vB,a'.tmps.getD 36 vB,a'.tmps.getD 37 vB,a'.tmps.getD 38 vB,a'.tmps.getD 39 vB,a'.tmps.getD 40 vB,a'.tmps.getD 41 vB,a'.tmps.getD 42 vB,a'.tmps.getD 43 vB,a'.tmps.getD 44 vB,a'.tmps.getD 45 vB,a'.tmps.getD 46 vB,a'.tmps.getD 47 vB,a'.tmps.getD 48 vB,a'.tmps.getD 49 vB,a'.tmps.getD 50 vB,a'.tmps.getD 51 vB,a'.tmps.getD 52 vB,a'.tmps.getD 53 vB,a'.tmps.getD 54 vB,a'.tmps.getD 55 vB,a'.tmps.getD 56 vB,a'.tmps.getD 57 vB,a'.tmps.getD 58 vB,a'.tmps.getD 59 vB,a'.tmps.getD 60 vB,a'.tmps.getD 61 vB,a'.tmps.getD 62 vB,a'.tmps.getD 63 vB,a'.tmps.getD 64 vB,a'.tmps.getD 65 vB,a'.tmps.getD 66 vB,a'.tmps.getD 67 vB,a'.tmps.getD 68 vB,a'.tmps.getD 69 vB,a'.tmps.getD 70 vB,a'.tmps.getD 71 vB,a'.tmps.getD 72 vB,a'.tmps.getD 73 vB,a'.tmps.getD 74 vB,a'.tmps.getD 75 vB,a'.tmps.getD 76 vB],defers:=[] }):zFB Q base n A c g out w a' wr:=⟨i,f,xs,fun k=>a'.tmps.getD k vB,h1,h2,h3,h4,h5,h6⟩
theorem zNV (Q base : Nat) (A : Option mB) (c : Nat) (xs : List Ne) (w : uA) (h : yN w Q base A c xs) (hm : xs.length <= 1000000) (hb : base <= w.heap.size) : Calls prog 244 #[(Q,0)] w fun e w' => e = .returned (.tuple #[]) /\ yN w' Q base A c (vR xs.length xs 0) /\ fD (zB A) w w' := by
 obtain ⟨out,hout⟩:∃ out,vR xs.length xs 0=out:=⟨_,rfl⟩
 rw [hout]
 obtain ⟨n,hn⟩:∃ n,n=xs.length:=⟨_,rfl⟩
 rw [<- hn] at hout hm
 have HN:=fA hn.symm
 have HO:=fA hout
 have HQ:=fA h
 have hbr:=fD.refl (zB A) w
 have HST:jC (∀ (f:Nat) (xs:List Ne) (i:Nat),lF xs i 2=i -> vR f xs i=xs):=fA fun f xs i h=>zQr f h
 have HGO:jC (∀ (f:Nat) (xs:List Ne) (i:Nat),xs.length<=i+f -> i<xs.length -> lF xs i 2≠i -> vR f xs i=vR (f - 1) (iQ xs i (lF xs i 2)) (lF xs i 2)):=fA fun f xs i h1 h2 h3=>dn_go h1 h2 h3
 generalize vR=g at *
 clear h hn hout
 go_enter func244,ntmps244
 go_wp2
 refine zAm 0 (zFB Q base n A c g out w) (fun a' _=>n - (intOf (a'.tmps.getD 2 vB)).toNat) rfl ?_ ?_
 ·rintro a' wr ⟨i,f,ys,u,HL,⟨hin,hif⟩,HX,HQ2,hw,rfl⟩
  clear HN HO HQ
  obtain ⟨m,hm2⟩:∃ m,m=2 * i:=⟨_,rfl⟩
  obtain ⟨k1,hk1⟩:∃ k1,k1=2 * i+1:=⟨_,rfl⟩
  obtain ⟨k2,hk2⟩:∃ k2,k2=2 * i+2:=⟨_,rfl⟩
  have hwm:IntKind.i64.wrap ((2:Int) * (i:Int))=(m:Int):=by rw [oH (by omega) (by omega)];omega
  have hw1:IntKind.i64.wrap ((m:Int)+1)=(k1:Int):=by rw [oH (by omega) (by omega)];omega
  have hw2:IntKind.i64.wrap ((m:Int)+2)=(k2:Int):=by rw [oH (by omega) (by omega)];omega
  have HK1:=fA hk1
  have HK2:=fA hk2
  clear hm2 hk1 hk2
  have hix0:∀ w:uA,(Instr.index 397 (.agg #[(k1:Int),(k2:Int)]) (.int .i64 0)).run prog w=.ok (.int .i64 (k1:Int)) w:=fun _=>by kernel_rfl
  have hix1:∀ w:uA,(Instr.index 397 (.agg #[(k1:Int),(k2:Int)]) (.int .i64 1)).run prog w=.ok (.int .i64 (k2:Int)) w:=fun _=>by kernel_rfl
  go_wp2
  clear hwm hw1 hw2
  go_loopw [3,14] (fun v i' wr=>∃ (k l:Nat),k<=2/\v=.int .i64 (l:Int)/\i'=.int .i64 (k:Int)/\jC (lF ys i k=l)/\(i<=l/\(l<n\/l=i))/\jC (yN wr Q base A c ys)/\fD (zB A) w wr) (fun _ i' _=>2 - (intOf i').toNat)
  case atStart=>exact ⟨0,i,by omega,rfl,rfl,fA rfl,⟨by omega,.inr rfl⟩,HQ2,hw⟩
  case round =>
  clear HQ2 hw
  obtain ⟨k,l,hk,rfl,rfl,HLF,hil,HQ3,hw3⟩:=hrel
  have gQ:=HQ3.out.blk
  rw [HL.out] at gQ
  obtain ⟨q0,q1,_,_,qlt⟩:=nJ gQ
  have hf0:=qB gQ 0
  rcases (by omega:k=0\/k=1\/k=2) with rfl | rfl | rfl
  ·
   have HK:=fA HK1.out
   have hkI:(0:Int)<=(k1:Int):=by omega
   by_cases hkn:k1<n
   ·have hlt:l<n:=by have:=HK.out;have:=hil.2;omega
    have hkn2:k1<ys.length:=by rw [HL.out];exact hkn
    have hln2:l<ys.length:=by rw [HL.out];exact hlt
    have HE:jC (lF ys i 1=if dZ (ys[k1]'hkn2) (ys[l]'hln2)<0 then k1 else l):=fA (by
     rw [lF,HLF.out,show 2 * i+1+0=k1 by have:=HK.out;omega]
     unfold zIU
     rw [yX hkn2,yX hln2]
     by_cases ho:dZ (ys[k1]'hkn2) (ys[l]'hln2)<0
     ·rw [if_pos ⟨hkn2,ho⟩,if_pos ho]
     ·rw [if_neg (fun q=>ho q.2),if_neg ho])
    have HRW:=fA HQ3.out.row
    rw [HL.out] at HRW
    obtain ⟨ga,hga⟩:∃ ga,A=yA ⟨ga,0,none⟩:=zBh HRW.out (by omega)
    subst hga
    obtain ⟨d0,d1,d2⟩:=jY HRW.out hkn2
    obtain ⟨e0,e1,e2⟩:=jY HRW.out hln2
    have HU:=fA (fun W=>zCM (ys[k1]'hkn2).1 (ys[k1]'hkn2).2.1 (ys[k1]'hkn2).2.2 (ys[l]'hln2).1 (ys[l]'hln2).2.1 (ys[l]'hln2).2.2 W)
    generalize (ys[k1]'hkn2)=x at *
    generalize (ys[l]'hln2)=y at *
    obtain ⟨x1,x2,x3⟩:=x
    obtain ⟨y1,y2,y3⟩:=y
    simp only at d0 d1 d2 e0 e1 e2 HU
    have hkk:(k1:Int)<(n:Int):=by omega
    have hll:(l:Int)<(n:Int):=by omega
    have hd1:decide ((k1:Int)<(n:Int))=true:=decide_eq_true hkk
    have hl00:(0:Int)<=(l:Int):=by omega
    have hgl:ga<wr.heap.size:=by have:=qC HRW.out ga (by simp [zB]);omega
    obtain ⟨bb,hbb⟩:∃ bb,bb=decide (dZ (x1,x2,x3) (y1,y2,y3)<0):=⟨_,rfl⟩
    rw [<- hbb] at HU
    have HBB:jC (lF ys i 1=if bb=true then k1 else l):=fA (by rw [HE.out,hbb];simp only [decide_eq_true_eq])
    clear hbb HE
    go_wp2
    go_region_held3 (fun W=>W.cell? ⟨Q,0,none⟩=yA (.slice (yA ⟨ga,0,none⟩) n c)/\W.cell? ⟨Q,1,none⟩=yA (.func (.func 239) #[] #[])/\W.cell? ⟨ga,k1 * 3,none⟩=yA (.int .i64 x1)/\W.cell? ⟨ga,k1 * 3+1,none⟩=yA (.int .i64 x2)/\W.cell? ⟨ga,k1 * 3+2,none⟩=yA (.int .i64 x3)/\W.cell? ⟨ga,l * 3,none⟩=yA (.int .i64 y1)/\W.cell? ⟨ga,l * 3+1,none⟩=yA (.int .i64 y2)/\W.cell? ⟨ga,l * 3+2,none⟩=yA (.int .i64 y3)) (first | exact ⟨q0,q1,d0,d1,d2,e0,e1,e2⟩ | exact ⟨r0,r1,s0,s1,s2,t0,t1,t2⟩) ((go_at_call 239;(refine (HU.out _).mono ?_);rintro e w1 ⟨rfl,hb1⟩;have hb1':Below wr.heap.size wr w1:=⟨hb1.os,hb1.tape,hb1.output,hb1.size,hb1.block⟩;have r0:=((bcell hb1').1 Q 0 qlt).trans q0;have r1:=((bcell hb1').1 Q 1 qlt).trans q1;have s0:=((bcell hb1').1 ga (k1 * 3) hgl).trans d0;have s1:=((bcell hb1').1 ga (k1 * 3+1) hgl).trans d1;have s2:=((bcell hb1').1 ga (k1 * 3+2) hgl).trans d2;have t0:=((bcell hb1').1 ga (l * 3) hgl).trans e0;have t1:=((bcell hb1').1 ga (l * 3+1) hgl).trans e1;have t2:=((bcell hb1').1 ga (l * 3+2) hgl).trans e2))
    have hw1:=hw3.below hb1'
    have HH1:=fA (HQ3.out.below hb1')
    clear HU
    cases bb with
    | true =>
     go_wp2
     all_goals go_roundw
     case rel=>exact ⟨1,k1,by omega,rfl,rfl,fA (by rw [HBB.out];rfl),⟨by have:=HK.out;omega,.inl hkn⟩,HH1,hw1⟩
     case measure=>exact (by decide:2 - 1<2 - 0)
    | false =>
     go_wp2
     all_goals go_roundw
     case rel=>exact ⟨1,l,by omega,rfl,rfl,fA (by rw [HBB.out];rfl),hil,HH1,hw1⟩
     case measure=>exact (by decide:2 - 1<2 - 0)
   ·have HE:jC (lF ys i 1=l):=fA (by
     rw [lF,HLF.out,show 2 * i+1+0=k1 by have:=HK.out;omega]
     unfold zIU
     rw [if_neg (fun q=>hkn (by rw [<- HL.out];exact q.1))])
    have hkk:¬ (k1:Int)<(n:Int):=by omega
    have hkk2:(n:Int)<=(k1:Int):=by omega
    have hkk3:n<=k1:=by omega
    have hd1:decide ((k1:Int)<(n:Int))=false:=decide_eq_false hkk
    go_wp2
    go_quiet (fail)
    go_wp2
    all_goals go_roundw
    case rel=>exact ⟨1,l,by omega,rfl,rfl,HE,hil,fA (HQ3.out.many _),hw3.many _⟩
    case measure=>exact (by decide:2 - 1<2 - 0)
  ·
   have HK:=fA HK2.out
   have hkI:(0:Int)<=(k2:Int):=by omega
   by_cases hkn:k2<n
   ·have hlt:l<n:=by have:=HK.out;have:=hil.2;omega
    have hkn2:k2<ys.length:=by rw [HL.out];exact hkn
    have hln2:l<ys.length:=by rw [HL.out];exact hlt
    have HE:jC (lF ys i 2=if dZ (ys[k2]'hkn2) (ys[l]'hln2)<0 then k2 else l):=fA (by
     rw [lF,HLF.out,show 2 * i+1+1=k2 by have:=HK.out;omega]
     unfold zIU
     rw [yX hkn2,yX hln2]
     by_cases ho:dZ (ys[k2]'hkn2) (ys[l]'hln2)<0
     ·rw [if_pos ⟨hkn2,ho⟩,if_pos ho]
     ·rw [if_neg (fun q=>ho q.2),if_neg ho])
    have HRW:=fA HQ3.out.row
    rw [HL.out] at HRW
    obtain ⟨ga,hga⟩:∃ ga,A=yA ⟨ga,0,none⟩:=zBh HRW.out (by omega)
    subst hga
    obtain ⟨d0,d1,d2⟩:=jY HRW.out hkn2
    obtain ⟨e0,e1,e2⟩:=jY HRW.out hln2
    have HU:=fA (fun W=>zCM (ys[k2]'hkn2).1 (ys[k2]'hkn2).2.1 (ys[k2]'hkn2).2.2 (ys[l]'hln2).1 (ys[l]'hln2).2.1 (ys[l]'hln2).2.2 W)
    generalize (ys[k2]'hkn2)=x at *
    generalize (ys[l]'hln2)=y at *
    obtain ⟨x1,x2,x3⟩:=x
    obtain ⟨y1,y2,y3⟩:=y
    simp only at d0 d1 d2 e0 e1 e2 HU
    have hkk:(k2:Int)<(n:Int):=by omega
    have hll:(l:Int)<(n:Int):=by omega
    have hd1:decide ((k2:Int)<(n:Int))=true:=decide_eq_true hkk
    have hl00:(0:Int)<=(l:Int):=by omega
    have hgl:ga<wr.heap.size:=by have:=qC HRW.out ga (by simp [zB]);omega
    obtain ⟨bb,hbb⟩:∃ bb,bb=decide (dZ (x1,x2,x3) (y1,y2,y3)<0):=⟨_,rfl⟩
    rw [<- hbb] at HU
    have HBB:jC (lF ys i 2=if bb=true then k2 else l):=fA (by rw [HE.out,hbb];simp only [decide_eq_true_eq])
    clear hbb HE
    go_wp2
    go_region_held3 (fun W=>W.cell? ⟨Q,0,none⟩=yA (.slice (yA ⟨ga,0,none⟩) n c)/\W.cell? ⟨Q,1,none⟩=yA (.func (.func 239) #[] #[])/\W.cell? ⟨ga,k2 * 3,none⟩=yA (.int .i64 x1)/\W.cell? ⟨ga,k2 * 3+1,none⟩=yA (.int .i64 x2)/\W.cell? ⟨ga,k2 * 3+2,none⟩=yA (.int .i64 x3)/\W.cell? ⟨ga,l * 3,none⟩=yA (.int .i64 y1)/\W.cell? ⟨ga,l * 3+1,none⟩=yA (.int .i64 y2)/\W.cell? ⟨ga,l * 3+2,none⟩=yA (.int .i64 y3)) (first | exact ⟨q0,q1,d0,d1,d2,e0,e1,e2⟩ | exact ⟨r0,r1,s0,s1,s2,t0,t1,t2⟩) ((go_at_call 239;(refine (HU.out _).mono ?_);rintro e w1 ⟨rfl,hb1⟩;have hb1':Below wr.heap.size wr w1:=⟨hb1.os,hb1.tape,hb1.output,hb1.size,hb1.block⟩;have r0:=((bcell hb1').1 Q 0 qlt).trans q0;have r1:=((bcell hb1').1 Q 1 qlt).trans q1;have s0:=((bcell hb1').1 ga (k2 * 3) hgl).trans d0;have s1:=((bcell hb1').1 ga (k2 * 3+1) hgl).trans d1;have s2:=((bcell hb1').1 ga (k2 * 3+2) hgl).trans d2;have t0:=((bcell hb1').1 ga (l * 3) hgl).trans e0;have t1:=((bcell hb1').1 ga (l * 3+1) hgl).trans e1;have t2:=((bcell hb1').1 ga (l * 3+2) hgl).trans e2))
    have hw1:=hw3.below hb1'
    have HH1:=fA (HQ3.out.below hb1')
    clear HU
    cases bb with
    | true =>
     go_wp2
     all_goals go_roundw
     case rel=>exact ⟨2,k2,by omega,rfl,rfl,fA (by rw [HBB.out];rfl),⟨by have:=HK.out;omega,.inl hkn⟩,HH1,hw1⟩
     case measure=>exact (by decide:2 - 2<2 - 1)
    | false =>
     go_wp2
     all_goals go_roundw
     case rel=>exact ⟨2,l,by omega,rfl,rfl,fA (by rw [HBB.out];rfl),hil,HH1,hw1⟩
     case measure=>exact (by decide:2 - 2<2 - 1)
   ·have HE:jC (lF ys i 2=l):=fA (by
     rw [lF,HLF.out,show 2 * i+1+1=k2 by have:=HK.out;omega]
     unfold zIU
     rw [if_neg (fun q=>hkn (by rw [<- HL.out];exact q.1))])
    have hkk:¬ (k2:Int)<(n:Int):=by omega
    have hkk2:(n:Int)<=(k2:Int):=by omega
    have hkk3:n<=k2:=by omega
    have hd1:decide ((k2:Int)<(n:Int))=false:=decide_eq_false hkk
    go_wp2
    go_quiet (fail)
    go_wp2
    all_goals go_roundw
    case rel=>exact ⟨2,l,by omega,rfl,rfl,HE,hil,fA (HQ3.out.many _),hw3.many _⟩
    case measure=>exact (by decide:2 - 2<2 - 1)
  ·have hX:=HX.out
   by_cases hli:l=i
   ·subst hli
    rw [HST.out f ys l HLF.out] at hX
    go_wp2
    simp only [Exit.jump]
    go_end0
    subst hX
    exact ⟨rfl,HQ3.out,hw3⟩
   ·have hliI:¬ (l:Int)=(i:Int):=by omega
    have hln:l<n:=by omega
    have hnn:i<n:=by omega
    have hin2:i<ys.length:=by rw [HL.out];exact hnn
    have hln2:l<ys.length:=by rw [HL.out];exact hln
    rw [HGO.out f ys i (by rw [HL.out];exact hif) hin2 (by rw [HLF.out];exact hli),HLF.out] at hX
    have HX2:=fA hX
    clear hX HX
    have HSW:jC (iQ ys i l=(ys.set i (ys[l]'hln2)).set l (ys[i]'hin2)):=fA (by unfold iQ;rw [yX hin2,yX hln2])
    have HRW:=fA HQ3.out.row
    rw [HL.out] at HRW
    obtain ⟨ga,hga⟩:∃ ga,A=yA ⟨ga,0,none⟩:=zBh HRW.out (by omega)
    subst hga
    obtain ⟨d0,d1,d2⟩:=jY HRW.out hin2
    obtain ⟨e0,e1,e2⟩:=jY HRW.out hln2
    generalize (ys[i]'hin2)=x at *
    generalize (ys[l]'hln2)=y at *
    obtain ⟨x1,x2,x3⟩:=x
    obtain ⟨y1,y2,y3⟩:=y
    simp only at d0 d1 d2 e0 e1 e2
    have hii:(i:Int)<(n:Int):=by omega
    have hjj:(l:Int)<(n:Int):=by omega
    have hi00:(0:Int)<=(i:Int):=by omega
    have hj00:(0:Int)<=(l:Int):=by omega
    have HSP:jC (∀ W,W=((((((wr.setCell ⟨ga,i * 3,none⟩ (.int .i64 y1)).setCell ⟨ga,i * 3+1,none⟩ (.int .i64 y2)).setCell ⟨ga,i * 3+2,none⟩ (.int .i64 y3)).setCell ⟨ga,l * 3,none⟩ (.int .i64 x1)).setCell ⟨ga,l * 3+1,none⟩ (.int .i64 x2)).setCell ⟨ga,l * 3+2,none⟩ (.int .i64 x3)).drew -> yN W Q base (yA ⟨ga,0,none⟩) c (iQ ys i l)):=fA fun W hW=>by
     have hF:=HQ3.out.far
     have hne:Q≠ga:=fun h=>hF (by subst h;simp [zB])
     have hl:=tP ys i l
     refine ⟨?_,?_,hF,HQ3.out.base⟩
     ·rw [hl,HL.out,hW]
      exact zPC gQ hne i l x1 x2 x3 y1 y2 y3
     ·rw [hl,HL.out,hW,HSW.out]
      exact zPD HRW.out HL.out hin2 hln2 x1 x2 x3 y1 y2 y3
    have HBL:jC (∀ W,W=((((((wr.setCell ⟨ga,i * 3,none⟩ (.int .i64 y1)).setCell ⟨ga,i * 3+1,none⟩ (.int .i64 y2)).setCell ⟨ga,i * 3+2,none⟩ (.int .i64 y3)).setCell ⟨ga,l * 3,none⟩ (.int .i64 x1)).setCell ⟨ga,l * 3+1,none⟩ (.int .i64 x2)).setCell ⟨ga,l * 3+2,none⟩ (.int .i64 x3)).drew -> fD (zB (yA ⟨ga,0,none⟩)) w W):=fA fun W hW=>by
     rw [hW]
     exact zRN hw3 (by simp [zB]) i l x1 x2 x3 y1 y2 y3
    have hQg:Q≠ga:=fun h=>HQ3.out.far (by subst h;simp [zB])
    have hQg2:ga≠Q:=fun h=>hQg h.symm
    have hf1:=mG HRW.out
    have qc1:wr.drew.cell? ⟨Q,0,none⟩=yA (.slice (yA ⟨ga,0,none⟩) n c):=jA gQ 0
    have hqc:∀ W:uA,W.drew.cell? ⟨Q,0,none⟩=yA (.slice (yA ⟨ga,0,none⟩) n c) -> ∀ a1 a2 a3 v1 v2 v3,(((W.setCell ⟨ga,a1,none⟩ v1).setCell ⟨ga,a2,none⟩ v2).setCell ⟨ga,a3,none⟩ v3).drew.cell? ⟨Q,0,none⟩=yA (.slice (yA ⟨ga,0,none⟩) n c):=fun W h a1 a2 a3 v1 v2 v3=>(oE _ _ _ _ hQg2).trans ((oE _ _ _ _ hQg2).trans ((oE _ _ _ _ hQg2).trans h))
    go_wp2
    refine iC (S:=fun W:uA=>W.cell? ⟨Q,0,none⟩=yA (.slice (yA ⟨ga,0,none⟩) n c)) [] qc1 fun hH => ?_
    refine gU [100,101,102,103,104,105,106,107,108,109,110,111,112,113,114,115,117,118,119,120,121,122] ?_
    refine bU 16 23 (fun K hK => ?_) ?_
    ·go_simp
     refine hK.out _ _ hH fun hH => ?_
     clear hK K
     try simp only [nP]
     refine oU 23 fun K hK => ?_
     go_simp
     refine hK.out _ _ hH fun hH => ?_
     clear hK K
     try simp only [nP]
     refine gU [124] ?_
     refine oU 25 fun K hK => ?_
     go_simp
     refine hK.out _ _ (hqc _ hH _ _ _ _ _ _) fun hH => ?_
     clear hK K
     try simp only [nP]
     refine gU [126] ?_
     refine oU 27 fun K hK => ?_
     go_simp
     refine hK.out _ _ (hqc _ hH _ _ _ _ _ _) fun hH => ?_
     clear hK K
     try simp only [nP]
     refine gU [300] ?_
     go_wp2
     refine wp_goto (gG rfl (gG (zFB.mk (i:=l) (f:=f - 1) (xs:=iQ ys i l) ((tP ys i l).trans HL.out) ⟨by omega,by omega⟩ HX2.out (HSP.out _ rfl) (HBL.out _ rfl) (by rfl)) ?_))
     show n - (intOf (.int .i64 (l:Int))).toNat<n - (intOf (.int .i64 (i:Int))).toNat
     simp only [intOf];omega
    intro K hK
    go_simp
    refine hK.out _ _ hH fun hH => ?_
    clear hK K
    try simp only [nP]
    refine oU 16 fun K hK => ?_
    go_simp
    refine hK.out _ _ hH fun hH => ?_
    clear hK K
    try simp only [nP]
    refine gU [124] ?_
    refine oU 25 fun K hK => ?_
    go_simp
    refine hK.out _ _ (hqc _ hH _ _ _ _ _ _) fun hH => ?_
    clear hK K
    try simp only [nP]
    refine gU [126] ?_
    refine oU 27 fun K hK => ?_
    go_simp
    refine hK.out _ _ (hqc _ hH _ _ _ _ _ _) fun hH => ?_
    clear hK K
    try simp only [nP]
    refine gU [300] ?_
    go_wp2
    refine wp_goto (gG rfl (gG (zFB.mk (i:=l) (f:=f - 1) (xs:=iQ ys i l) ((tP ys i l).trans HL.out) ⟨by omega,by omega⟩ HX2.out (HSP.out _ rfl) (HBL.out _ rfl) (by rfl)) ?_))
    show n - (intOf (.int .i64 (l:Int))).toNat<n - (intOf (.int .i64 (i:Int))).toNat
    simp only [intOf];omega
 ·intro hp
  go_wp2
  refine wp_label ?_
  show Exit.then _ _ _ _ _
  refine (by assumption:∀ (a:Act) (w:uA),_ -> _) _ _ (hp _ _ ?_)
  exact zFB.mk (i:=0) (f:=n) HN.out ⟨by omega,by omega⟩ HO.out HQ.out hbr (by rfl)
theorem zNh (Q base:Nat) (A:Option mB) (c:Nat) (w:uA) (h:yN w Q base A c []) (hb:base<=w.heap.size):Calls prog 177 #[(Q,0)] w fun e w'=>e=.returned (.tuple #[.agg #[.int .i64 0,.int .i64 0,.int .i64 0],.bool false])/\yN w' Q base A c []/\Below base w w'/\fD (Q :: zB A) w w':=by
 have hbw:=cC base w
 have ha:=hbw.alloc hb (vN 0 0 0)
 have ha0:=wA w (vN 0 0 0)
 have gQ:=kA ha0 h.blk
 have gR:=rB w (vN 0 0 0)
 have HH:=fA (h.below ha0)
 have hQl:Q<w.heap.size:=(nJ h.blk).2.2.2.2
 obtain ⟨q0,q1,qf0,qf1,qlt⟩:=nJ gQ
 simp only [List.length_nil] at q0
 obtain ⟨n0,n1,n2,nf0,nf1,nf2,nlt⟩:=vH gR
 have HB:=fA ha
 have HC:jC (fD (Q :: zB A) w (w.alloc (vN 0 0 0))):=fA (fD.of_below ha0)
 clear h ha ha0 gQ gR hQl hbw
 go_enter func177,ntmps177
 go_wp2
 (try simp only [Exit.inBlock,Exit.then])
 refine bodyPost_ret (v:=.tuple #[.agg #[.int .i64 0,.int .i64 0,.int .i64 0],.bool false]) ?_ rfl ⟨rfl,HH.out,HB.out,HC.out⟩
 rw [nZ rfl]
 go_simp
theorem zNi (Q base:Nat) (A:Option mB) (c:Nat) (xs:List Ne) (w:uA) (h:yN w Q base A c xs) (h0:0<xs.length) (hm:xs.length<=1000000) (hb:base<=w.heap.size):Calls prog 177 #[(Q,0)] w fun e w'=>e=.returned (.tuple #[.agg (zDO (xs.getD 0 (0,0,0))).toArray,.bool true])/\yN w' Q base A c (vR (xs.length - 1) ((xs.set 0 (xs.getD (xs.length - 1) (0,0,0))).take (xs.length - 1)) 0)/\Below base w w'/\fD (Q :: zB A) w w':=by
 obtain ⟨n,hn⟩:∃ n,n=xs.length:=⟨_,rfl⟩
 obtain ⟨m,hm1⟩:∃ m,m=xs.length - 1:=⟨_,rfl⟩
 have hbw:=cC base w
 have ha:=hbw.alloc hb (vN 0 0 0)
 have ha0:=wA w (vN 0 0 0)
 have gQ:=kA ha0 h.blk
 have gR:=rB w (vN 0 0 0)
 have hQl:Q<w.heap.size:=(nJ h.blk).2.2.2.2
 have hrow:=jB h.row ha0
 obtain ⟨ga,hga⟩:∃ ga,A=yA ⟨ga,0,none⟩:=zBh h.row h0
 subst hga
 have hm2:m<xs.length:=by omega
 obtain ⟨d0,d1,d2⟩:=jY hrow h0
 obtain ⟨e0,e1,e2⟩:=jY hrow hm2
 have hfr:=mG hrow
 rw [<- hm1,yX h0,yX hm2]
 have hgl:ga<w.heap.size:=(qC h.row ga (by simp [zB])).2
 have hgb:base<=ga:=(qC h.row ga (by simp [zB])).1
 have hQg:Q≠ga:=fun hq=>h.far (by subst hq;simp [zB])
 generalize (xs[0]'h0)=x at *
 generalize (xs[m]'hm2)=y at *
 obtain ⟨x1,x2,x3⟩:=x
 obtain ⟨y1,y2,y3⟩:=y
 simp only [qR,bD] at d0 d1 d2 e0 e1 e2
 have hsz:(w.alloc (vN 0 0 0)).heap.size=w.heap.size+1:=wB _ _
 obtain ⟨q0,q1,qf0,qf1,qlt⟩:=nJ gQ
 rw [<- hn] at q0 h0 hm
 have hnn:(0:Int)<=(n:Int):=by omega
 have hwr:IntKind.i64.wrap ((n:Int) - 1)=(m:Int):=by rw [oH (by omega) (by omega)];omega
 have hml:¬ (m:Int)<0:=by omega
 have hm0:(0:Int)<=(m:Int):=by omega
 have hmn:(m:Int)<(n:Int):=by omega
 have h0n:(0:Int)<(n:Int):=by omega
 have h0N:0<n:=h0
 obtain ⟨n0,n1,n2,nf0,nf1,nf2,nlt⟩:=vH gR
 have HH:=fA h
 have HN:=fA hn
 have HM:=fA hm1
 have HA:=fA ha
 have HR:=fA hrow
 have HGQ:=fA gQ
 clear h ha ha0 gQ gR hQl hbw hn hm1 hrow hsz
 go_enter func177,ntmps177
 go_wp2
 have hb2:=wA (w.alloc (vN 0 0 0)) (vN x1 x2 x3)
 have hrow2:=jB HR.out hb2
 have gQ2:=kA hb2 HGQ.out
 have gN:=rB (w.alloc (vN 0 0 0)) (vN x1 x2 x3)
 have gR2:=kA hb2 (rB w (vN 0 0 0))
 have hsz:(w.alloc (vN 0 0 0)).heap.size=w.heap.size+1:=wB _ _
 rw [hsz] at gN
 have HB2:=fA (HA.out.trans (hb2.mono (by omega)))
 have HC2:jC (fD (Q :: zB (yA (⟨ga,0,none⟩:mB))) w ((w.alloc (vN 0 0 0)).alloc (vN x1 x2 x3))):=fA (fD.of_below ((wA w _).trans (hb2.mono (by omega))))
 have hga1:ga<(w.alloc (vN 0 0 0)).heap.size:=by omega
 have dd0:=((bcell hb2).1 ga 0 hga1).trans d0
 have dd1:=((bcell hb2).1 ga 1 hga1).trans d1
 have dd2:=((bcell hb2).1 ga 2 hga1).trans d2
 have ee0:=((bcell hb2).1 ga (m * 3) hga1).trans e0
 have ee1:=((bcell hb2).1 ga (m * 3+1) hga1).trans e1
 have ee2:=((bcell hb2).1 ga (m * 3+2) hga1).trans e2
 have hQl:=HH.out.blk
 have hQlt:Q<w.heap.size:=(nJ hQl).2.2.2.2
 obtain ⟨R,hR⟩:∃ R,R=w.heap.size:=⟨_,rfl⟩
 rw [<- hR] at gN gR2 hgl hQlt ⊢
 obtain ⟨W2,hW2⟩:∃ W2,W2=(w.alloc (vN 0 0 0)).alloc (vN x1 x2 x3):=⟨_,rfl⟩
 rw [<- hW2] at hrow2 gQ2 gN gR2 HB2 HC2 dd0 dd1 dd2 ee0 ee1 ee2
 rw [<- hW2]
 clear d0 d1 d2 e0 e1 e2 hfr q0 q1 qf0 qf1 qlt n0 n1 n2 nf0 nf1 nf2 nlt hW2 hQl hb2 hsz hga1
 rw [<- HN.out] at hrow2 gQ2
 obtain ⟨q0,q1,qf0,qf1,qlt⟩:=nJ gQ2
 have hfr:=mG hrow2
 have hgQ:ga≠Q:=fun hq=>hQg hq.symm
 have hcap:n<=c:=by
  rcases hrow2.2 with ⟨_,q⟩ | ⟨g',c',cur,hv,hg,hh,hnc,hcm,hsz,htk⟩
  ·omega
  ·injection hv with e1 e2 e3;omega
 have hmc:(m:Int)<=(c:Int):=by omega
 have h3:((W2.setCell ⟨ga,0,none⟩ (.int .i64 y1)).setCell ⟨ga,1,none⟩ (.int .i64 y2)).setCell ⟨ga,2,none⟩ (.int .i64 y3)=W2.setCells ga (0 * 3) (zDO (y1,y2,y3)):=by unfold zDO;simp only [World.setCells,qR,bD]
 have HDN:jC (∀ W4,W4=((((W2.setCell ⟨ga,0,none⟩ (.int .i64 y1)).setCell ⟨ga,1,none⟩ (.int .i64 y2)).setCell ⟨ga,2,none⟩ (.int .i64 y3)).setCell ⟨Q,0,none⟩ (.slice (yA ⟨ga,0,none⟩) m c)).drew -> Calls prog 244 #[.pointer (yA ⟨Q,0,none⟩)] W4 fun e w'=>e=.returned (.tuple #[])/\w'.heap[R+1]?=yA (vN x1 x2 x3)/\w'.heap[R]?=yA (vN 0 0 0)/\yN (((w'.setCell ⟨R,0,none⟩ (.int .i64 x1)).setCell ⟨R,1,none⟩ (.int .i64 x2)).setCell ⟨R,2,none⟩ (.int .i64 x3)) Q base (yA ⟨ga,0,none⟩) c (vR m ((xs.set 0 (y1,y2,y3)).take m) 0)/\Below base w (((w'.setCell ⟨R,0,none⟩ (.int .i64 x1)).setCell ⟨R,1,none⟩ (.int .i64 x2)).setCell ⟨R,2,none⟩ (.int .i64 x3))/\fD (Q :: zB (yA (⟨ga,0,none⟩:mB))) w (((w'.setCell ⟨R,0,none⟩ (.int .i64 x1)).setCell ⟨R,1,none⟩ (.int .i64 x2)).setCell ⟨R,2,none⟩ (.int .i64 x3))):=fA fun W4 hW4=>by
  have hl:xs.length=n:=HN.out.symm
  have hlm:((xs.set 0 (y1,y2,y3)).take m).length=m:=by rw [List.length_take,lD];omega
  have r1:=mR zCE hrow2 hl (i:=0) (by omega) (y1,y2,y3)
  have r2:=bZ zCE r1 (i:=m) (by rw [lD];exact hl) (by rw [lD];omega) [] (by simp;omega)
  rw [<- h3] at r2
  have hQb:Q ∉ zB (yA (⟨ga,0,none⟩:mB)):=by simpa [zB] using hQg
  have r3:=sI (rE r2 (b:=Q) (fun x hx he=>hQb (by rw [<- he];exact hx)) 0 (.slice (yA ⟨ga,0,none⟩) m c))
  have hQ4:yN W4 Q base (yA ⟨ga,0,none⟩) c ((xs.set 0 (y1,y2,y3)).take m):=by
   refine ⟨?_,?_,hQb,HH.out.base⟩
   ·rw [hlm,hW4]
    exact heap_drew (zD (pC (pC (pC gQ2 hQg _) hQg _) hQg _) _)
   ·rw [hlm,hW4]
    exact r3
  have hB4:Below base w W4:=by
   rw [hW4]
   exact ((((HB2.out.setCell (p:=⟨ga,0,none⟩) hgb _).setCell (p:=⟨ga,1,none⟩) hgb _).setCell (p:=⟨ga,2,none⟩) hgb _).setCell (p:=⟨Q,0,none⟩) HH.out.base _).drew
  have hC4:fD (Q :: zB (yA (⟨ga,0,none⟩:mB))) w W4:=by
   rw [hW4]
   exact ((((HC2.out.setCell (.inl (by simp [zB])) _ _).setCell (.inl (by simp [zB])) _ _).setCell (.inl (by simp [zB])) _ _).setCell (.inl (by simp)) _ _).drew
  have k1:ga≠R:=by omega
  have k2:Q≠R:=by omega
  have gN4:W4.heap[R+1]?=yA (vN x1 x2 x3):=by
   rw [hW4]
   exact heap_drew (pC (pC (pC (pC gN (by omega) _) (by omega) _) (by omega) _) (by omega) _)
  have gR4:W4.heap[R]?=yA (vN 0 0 0):=by
   rw [hW4]
   exact heap_drew (pC (pC (pC (pC gR2 (by omega) _) (by omega) _) (by omega) _) (by omega) _)
  refine (zNV Q base (yA ⟨ga,0,none⟩) c _ W4 hQ4 (by omega) (pA hb hB4.size)).mono fun e w' q => ?_
  obtain ⟨q1,q2,q3⟩:=q
  rw [hlm] at q2
  have hbR:base<=R:=by omega
  have hne:∀ x ∈ zB (yA (⟨ga,0,none⟩:mB)),x≠R:=fun x hx he=>by simp [zB] at hx;omega
  have hBel:=hB4.trans (q3.to_below (B:=base) (fun x hx=>by simp [zB] at hx;omega) (pA hb hB4.size))
  exact ⟨q1,q3.keep gN4 (by simp [zB];omega),q3.keep gR4 (by simp [zB];omega),⟨pC (pC (pC q2.blk k2 _) k2 _) k2 _,rE (rE (rE q2.row hne 0 _) hne 1 _) hne 2 _,q2.far,q2.base⟩,((hBel.setCell (p:=⟨R,0,none⟩) hbR _).setCell (p:=⟨R,1,none⟩) hbR _).setCell (p:=⟨R,2,none⟩) hbR _,(((hC4.trans q3 (fun x hx=>.inl (List.mem_cons_of_mem _ hx))).setCell (.inr (by omega)) 0 _).setCell (.inr (by omega)) 1 _).setCell (.inr (by omega)) 2 _⟩
 clear h3 hR hgl hQlt gN gR2 hrow2 gQ2 hm2
 go_still_tail 13,(by kernel_rfl)
 show wpList _ _ _ _ _ W2.drew
 go_wp2_with (go_at_call 244;refine (HDN.out _ rfl).mono ?_;rintro e w5 ⟨rfl,gN5,gR5,hHp,hB5,hC5⟩;obtain ⟨n0,n1,n2,_,_,_,_⟩:=vH gN5;obtain ⟨r0,r1,r2,rf0,rf1,rf2,_⟩:=vH gR5)
 (try simp only [Exit.inBlock,Exit.then])
 refine bodyPost_ret (v:=.tuple #[.agg #[x1,x2,x3],.bool true]) ?_ rfl ⟨rfl,hHp,hB5,hC5⟩
 rw [nZ rfl]
 go_simp
end Go.Proofs.YtogbpifcmhafkaaGreat
