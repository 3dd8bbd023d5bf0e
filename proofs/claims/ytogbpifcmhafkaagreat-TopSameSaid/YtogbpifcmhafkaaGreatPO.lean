/-
 Part PO of the proof.
-/
import Derived.Test.YtogbpifcmhafkaaGreatPL
import Derived.Test.YtogbpifcmhafkaaGreatPJ
import Derived.Test.YtogbpifcmhafkaaGreatPI
open Go renaming Addr->mB,Calls->iA,World->uA
open Go.Lib renaming hid->fA
open Go.Proofs renaming enters_of->yE
open Go.RowKit renaming Hid->jC
open Go.Value renaming agg->vE
open Go.World renaming ownsRow_nil->nB
open List renaming getD_eq_getElem?_getD->pB,getElem?_eq_getElem->rA,length_set->lD
open Nat renaming lt_of_lt_of_le->tA
open Option renaming getD_some->yD,some->yA
namespace Go.Proofs.YtogbpifcmhafkaaGreat
open Go.RowKit Tryz
open Go.Lib(hid)
set_option linter.unusedVariables false
set_option linter.unusedSimpArgs false
set_option maxRecDepth 100000
set_option maxHeartbeats 16000000
def rD (xs:List Rp):List Rp:=if oO none xs then xs else []
theorem jL (xs:List Rp):(rD xs).length<=xs.length:=by unfold rD;split <;> simp
def zRp:Rp:=(0,0,0,false,false)
def rfn (xs:List Rp) (t:Rp):Nat -> Int:=fun m=>zKC (xs.getD m zRp) t
theorem zBx (A:Option mB) (c:Nat) (xs:List Rp) (w:uA) (h:yB fJ w A c xs):iA prog 260 #[.slice A xs.length c] w (mD 124 5 (rD xs).length (flat fJ (rD xs)) w):=by
 have HM:jC (iA prog 331 #[.slice A xs.length c] w fun e w'=>e=.returned (.bool (oO none xs))/\Below w.heap.size w w'):=zOH A c xs w h
 have HC:jC (∀ W,Below w.heap.size w W -> iA prog 332 #[.slice A xs.length c] W (mD 124 5 xs.length (flat fJ xs) W)):=fun W hb=>zQk A c xs.length (flat fJ xs) W (h.row.below hb) h.none_ (jD iO xs) (jF zHl xs) h.max
 unfold rD
 cases hok:oO none xs with
 | true =>
  rw [hok] at HM
  rw [if_pos rfl]
  clear hok h
  go_enter func260,ntmps260
  go_wp2_with (first
   | (go_at_call 331;refine HM.out.mono ?_;rintro e w1 ⟨rfl,hb1⟩)
   | (go_at_call 332;refine (HC.out _ hb1).mono ?_;rintro e w2 ⟨A2,c2,rfl,own2,hb2⟩))
  go_ret
  exact ⟨A2,c2,rfl,oC own2 hb1.size,hb1.trans (hb2.mono hb1.size)⟩
 | false =>
  rw [hok] at HM
  rw [if_neg (by decide)]
  clear hok h
  go_enter func260,ntmps260
  go_wp2_with (go_at_call 331;refine HM.out.mono ?_;rintro e w1 ⟨rfl,hb1⟩)
  go_ret
  exact ⟨none,0,rfl,nB _ _ _ _,hb1⟩
theorem zQf (A : Option mB) (c : Nat) (xs : List Rp) (t1 t2 t3 : Int) (t4 t5 : Bool) (w : uA) (h : yB fJ w A c xs) : iA prog 329 #[.slice A xs.length c, .agg #[t1, t2, .int .u32 t3, .bool t4, .bool t5], .func (.func 330) #[] #[]] w fun e w' => e = .returned (.tuple #[.int .i64 (iT (rfn xs (t1, t2, t3, t4, t5)) xs.length), .bool (kL (rfn xs (t1, t2, t3, t4, t5)) xs.length)]) /\ Below w.heap.size w w' := by
 have HI0:=fA h
 have hmx:=h.max
 obtain ⟨f,hf⟩:∃ f:Nat -> Int,f=rfn xs (t1,t2,t3,t4,t5):=⟨_,rfl⟩
 have hfe:∀ m,zKC (xs.getD m zRp) (t1,t2,t3,t4,t5)=f m:=fun m=>by rw [hf];rfl
 rw [<- hf]
 have HF:=fA hfe
 obtain ⟨W0,hW0⟩:∃ W0,W0=w.alloc (.cells #[t1,t2,.int .u32 t3,.bool t4,.bool t5] 124):=⟨_,rfl⟩
 have hbT:Below w.heap.size w W0:=by rw [hW0];exact wA _ _
 have gT0:W0.heap[w.heap.size]?=yA (.cells #[t1,t2,.int .u32 t3,.bool t4,.bool t5] 124):=by rw [hW0];exact rB _ _
 have HI:=fA (h.below hbT)
 have HG:=fA gT0
 have HBT:=fA hbT
 have HW:=fA hW0
 have hb0:=xC W0
 clear h hf hfe HI0 hW0 hbT gT0
 go_enter func329,ntmps329
 go_wp2_with fail
 rw [<- HW.out]
 clear HW
 go_wp2
 go_loopw [9,10] (fun i j wr=>∃ (p q:Nat),p<=q/\q<=xs.length/\i=.int .i64 (p:Int)/\j=.int .i64 (q:Int)/\jC (dG f p q=dG f 0 xs.length)/\Below W0.heap.size W0 wr) (fun i j _=>(intOf j).toNat - (intOf i).toNat)
 case atStart=>exact ⟨0,xs.length,by omega,by omega,rfl,rfl,fA rfl,hb0⟩
 case round =>
  clear hb0
  obtain ⟨p,q,hpq,hq,rfl,rfl,HB,hw⟩:=hrel
  have gT:=kA hw HG.out
  obtain ⟨s0,s1,s2,s3,s4,_,_,_,_,_,slt⟩:=yG gT
  by_cases hlt:p<q
  ·have hlt':(p:Int)<(q:Int):=by omega
   have HB2:jC (dG f p q=if f ((p+q) / 2)<0 then dG f ((p+q) / 2+1) q else dG f p ((p+q) / 2)):=by
    show dG f p q=_
    rw [dG,if_pos hlt]
   have hpm:p<=(p+q) / 2/\(p+q) / 2<q:=by omega
   have em:((p:Int)+(q:Int)) / 2=(((p+q) / 2:Nat):Int):=by omega
   generalize (p+q) / 2=m at *
   have hm:m<xs.length:=by omega
   have hm0:(0:Int)<=(m:Int):=by omega
   have hm1:(m:Int)<(xs.length:Int):=by omega
   obtain ⟨b,off,rfl,blt,c0,c1,c2,c3,c4⟩:=rR (HI.out.below hw) hm
   have hfm:=HF.out m
   rw [pB,rA hm,yD] at hfm
   generalize (xs[m]'hm)=x at *
   obtain ⟨x1,x2,x3,x4,x5⟩:=x
   simp only at c0 c1 c2 c3 c4 hfm
   have HC:jC (∀ W,iA prog 330 #[.agg #[x1,x2,.int .u32 x3,.bool x4,.bool x5],.agg #[t1,t2,.int .u32 t3,.bool t4,.bool t5]] W fun e w'=>e=.returned (.int .i64 (f m))/\Below W.heap.size W w'):=fA fun W=>by
    rw [<- hfm];exact zCH x1 x2 x3 t1 t2 t3 x4 x5 t4 t5 W
   clear hfm
   generalize f m=fm at *
   by_cases hneg:fm<0
   ·have HB3:jC (dG f (m+1) q=dG f 0 xs.length):=by
     have:=HB2.out
     rw [if_pos hneg] at this
     show dG f (m+1) q=_
     rw [<- this];exact HB.out
    clear HB2 HB
    go_wp2_with fail
    go_region_held3 (fun W=>W.cell? ⟨b,off+m * 5,none⟩=yA (.int .i64 x1)/\W.cell? ⟨b,off+m * 5+1,none⟩=yA (.int .i64 x2)/\W.cell? ⟨b,off+m * 5+2,none⟩=yA (.int .u32 x3)/\W.cell? ⟨b,off+m * 5+3,none⟩=yA (.bool x4)/\W.cell? ⟨b,off+m * 5+4,none⟩=yA (.bool x5)/\W.cell? ⟨w.heap.size,0,none⟩=yA (.int .i64 t1)/\W.cell? ⟨w.heap.size,1,none⟩=yA (.int .i64 t2)/\W.cell? ⟨w.heap.size,2,none⟩=yA (.int .u32 t3)/\W.cell? ⟨w.heap.size,3,none⟩=yA (.bool t4)/\W.cell? ⟨w.heap.size,4,none⟩=yA (.bool t5)) (first | exact ⟨c0,c1,c2,c3,c4,s0,s1,s2,s3,s4⟩ | exact ⟨n0,n1,n2,n3,n4,q0,q1,q2,q3,q4⟩) ((go_at_call 330;refine (HC.out _).mono ?_;rintro e w1 ⟨rfl,hb1⟩;have hw1:=hw.drew.trans (hb1.mono hw.size);obtain ⟨q0,q1,q2,q3,q4,_,_,_,_,_,qlt⟩:=yG (kA hb1 (iB gT));have n0:=((bcell hb1).1 b (off+m * 5) blt).trans c0;have n1:=((bcell hb1).1 b (off+m * 5+1) blt).trans c1;have n2:=((bcell hb1).1 b (off+m * 5+2) blt).trans c2;have n3:=((bcell hb1).1 b (off+m * 5+3) blt).trans c3;have n4:=((bcell hb1).1 b (off+m * 5+4) blt).trans c4))
    go_wp2
    go_roundw
    case rel=>exact ⟨m+1,q,by omega,by omega,by go_num,rfl,HB3,hw1⟩
    case measure=>simp [intOf];omega
   ·have HB3:jC (dG f p m=dG f 0 xs.length):=by
     have:=HB2.out
     rw [if_neg hneg] at this
     show dG f p m=_
     rw [<- this];exact HB.out
    clear HB2 HB
    go_wp2_with fail
    go_region_held3 (fun W=>W.cell? ⟨b,off+m * 5,none⟩=yA (.int .i64 x1)/\W.cell? ⟨b,off+m * 5+1,none⟩=yA (.int .i64 x2)/\W.cell? ⟨b,off+m * 5+2,none⟩=yA (.int .u32 x3)/\W.cell? ⟨b,off+m * 5+3,none⟩=yA (.bool x4)/\W.cell? ⟨b,off+m * 5+4,none⟩=yA (.bool x5)/\W.cell? ⟨w.heap.size,0,none⟩=yA (.int .i64 t1)/\W.cell? ⟨w.heap.size,1,none⟩=yA (.int .i64 t2)/\W.cell? ⟨w.heap.size,2,none⟩=yA (.int .u32 t3)/\W.cell? ⟨w.heap.size,3,none⟩=yA (.bool t4)/\W.cell? ⟨w.heap.size,4,none⟩=yA (.bool t5)) (first | exact ⟨c0,c1,c2,c3,c4,s0,s1,s2,s3,s4⟩ | exact ⟨n0,n1,n2,n3,n4,q0,q1,q2,q3,q4⟩) ((go_at_call 330;refine (HC.out _).mono ?_;rintro e w1 ⟨rfl,hb1⟩;have hw1:=hw.drew.trans (hb1.mono hw.size);obtain ⟨q0,q1,q2,q3,q4,_,_,_,_,_,qlt⟩:=yG (kA hb1 (iB gT));have n0:=((bcell hb1).1 b (off+m * 5) blt).trans c0;have n1:=((bcell hb1).1 b (off+m * 5+1) blt).trans c1;have n2:=((bcell hb1).1 b (off+m * 5+2) blt).trans c2;have n3:=((bcell hb1).1 b (off+m * 5+3) blt).trans c3;have n4:=((bcell hb1).1 b (off+m * 5+4) blt).trans c4))
    go_wp2
    go_roundw
    case rel=>exact ⟨p,m,by omega,by omega,rfl,rfl,HB3,hw1⟩
    case measure=>simp [intOf];omega
  have hlt':¬ (p:Int)<(q:Int):=by omega
  have HR:jC (p=dG f 0 xs.length):=by
   have:=HB.out
   rw [dG,if_neg hlt] at this
   exact this
  have HP:jC (iT f xs.length=(p:Int)):=fA (by unfold iT;rw [<- HR.out])
  by_cases hin:p<xs.length
  ·have hin':(p:Int)<(xs.length:Int):=by omega
   have hp0:(0:Int)<=(p:Int):=by omega
   obtain ⟨b,off,rfl,blt,c0,c1,c2,c3,c4⟩:=rR (HI.out.below hw) hin
   have hfm:=HF.out p
   rw [pB,rA hin,yD] at hfm
   generalize (xs[p]'hin)=x at *
   obtain ⟨x1,x2,x3,x4,x5⟩:=x
   simp only at c0 c1 c2 c3 c4 hfm
   have HC:jC (∀ W,iA prog 330 #[.agg #[x1,x2,.int .u32 x3,.bool x4,.bool x5],.agg #[t1,t2,.int .u32 t3,.bool t4,.bool t5]] W fun e w'=>e=.returned (.int .i64 (f p))/\Below W.heap.size W w'):=fA fun W=>by
    rw [<- hfm];exact zCH x1 x2 x3 t1 t2 t3 x4 x5 t4 t5 W
   have HZ:jC (kL f xs.length=decide (f p=0)):=fA (by unfold kL;rw [<- HR.out];simp [hin])
   obtain ⟨fm,hfm2⟩:∃ fm,fm=f p:=⟨_,rfl⟩
   rw [<- hfm2] at HC HZ
   have HG2:=fA hfm2
   clear hfm HB hfm2
   go_wp2_with fail
   go_region_held3 (fun W=>W.cell? ⟨b,off+p * 5,none⟩=yA (.int .i64 x1)/\W.cell? ⟨b,off+p * 5+1,none⟩=yA (.int .i64 x2)/\W.cell? ⟨b,off+p * 5+2,none⟩=yA (.int .u32 x3)/\W.cell? ⟨b,off+p * 5+3,none⟩=yA (.bool x4)/\W.cell? ⟨b,off+p * 5+4,none⟩=yA (.bool x5)/\W.cell? ⟨w.heap.size,0,none⟩=yA (.int .i64 t1)/\W.cell? ⟨w.heap.size,1,none⟩=yA (.int .i64 t2)/\W.cell? ⟨w.heap.size,2,none⟩=yA (.int .u32 t3)/\W.cell? ⟨w.heap.size,3,none⟩=yA (.bool t4)/\W.cell? ⟨w.heap.size,4,none⟩=yA (.bool t5)) (first | exact ⟨c0,c1,c2,c3,c4,s0,s1,s2,s3,s4⟩ | exact ⟨n0,n1,n2,n3,n4,q0,q1,q2,q3,q4⟩) ((go_at_call 330;refine (HC.out _).mono ?_;rintro e w1 ⟨rfl,hb1⟩;have hw1:=hw.drew.trans (hb1.mono hw.size);obtain ⟨q0,q1,q2,q3,q4,_,_,_,_,_,qlt⟩:=yG (kA hb1 (iB gT));have n0:=((bcell hb1).1 b (off+p * 5) blt).trans c0;have n1:=((bcell hb1).1 b (off+p * 5+1) blt).trans c1;have n2:=((bcell hb1).1 b (off+p * 5+2) blt).trans c2;have n3:=((bcell hb1).1 b (off+p * 5+3) blt).trans c3;have n4:=((bcell hb1).1 b (off+p * 5+4) blt).trans c4))
   go_wp2
   go_ret2
   exact ⟨by rw [HP.out,HZ.out];rfl,HBT.out.trans (hw1.mono HBT.out.size)⟩
  ·have hin':¬ (p:Int)<(xs.length:Int):=by omega
   have HZ:jC (kL f xs.length=false):=fA (by unfold kL;rw [<- HR.out];simp [hin])
   clear HB
   go_wp2_with fail
   go_quiet (fail)
   go_wp2
   go_ret2
   exact ⟨by rw [HP.out,HZ.out];rfl,Below.many (HBT.out.trans (hw.mono HBT.out.size)) _⟩
theorem zBy (A:Option mB) (c:Nat) (xs:List Rp) (t:Int) (b:Bool) (w:uA) (h:yB fJ w A c xs):iA prog 259 #[.slice A xs.length c,t,.bool b] w fun e w'=>e=.returned (.tuple #[.int .i64 (iT (rfn xs (t,0,0,b,false)) xs.length),.bool (kL (rfn xs (t,0,0,b,false)) xs.length)])/\Below w.heap.size w w':=by
 have HB:=fA (zQf A c xs t 0 0 b false w h)
 clear h
 go_enter func259,ntmps259
 go_wp2_with (go_at_call 329;refine HB.out.mono ?_;rintro e w1 ⟨rfl,hb1⟩)
 go_ret2
 exact ⟨rfl,hb1⟩
def zOt (x:Rp):Rp:=(x.1,0,0,x.2.2.2.1,false)
def zDd (xs:List Rp) (x:Rp):List Rp:=if kL (rfn xs (zOt x)) xs.length then xs.set (dG (rfn xs (zOt x)) 0 xs.length) x else xs.take (dG (rfn xs (zOt x)) 0 xs.length) ++ [x] ++ xs.drop (dG (rfn xs (zOt x)) 0 xs.length)
theorem zDe (xs:List Rp) (x:Rp):(zDd xs x).length<=xs.length+1:=by
 unfold zDd
 split
 ·rw [lD];omega
 ·simp only [List.length_append,List.length_take,List.length_drop,List.length_singleton];omega
def zRo {α:Type} (enc:α -> List Value) (base:Nat) (e:TypeId) (k:Nat) (xs:List α) (w:uA) (en:Ending) (w':uA):Prop:=∃ A c,en=.returned (.slice A xs.length c)/\w'.ownsRow base e k (.slice A xs.length c) xs.length (flat enc xs)/\Below base w w'
theorem zIF (base c:Nat) (A:Option mB) (xs:List Rp) (x1 x2 x3:Int) (x4 x5:Bool) (w:uA) (hbase:base<=w.heap.size) (ho:w.ownsRow base 124 5 (.slice A xs.length c) xs.length (flat fJ xs)) (hs:xs.length<1000000):iA prog 289 #[.slice A xs.length c,.agg #[x1,x2,.int .u32 x3,.bool x4,.bool x5]] w (zRo fJ base 124 5 (zDd xs (x1,x2,x3,x4,x5)) w):=by
 have hal:=wA w (.cells #[x1,x2,.int .u32 x3,.bool x4,.bool x5] 124)
 have gX:=rB w (.cells #[x1,x2,.int .u32 x3,.bool x4,.bool x5] 124)
 have HFI:jC (∀ W,Below w.heap.size w W -> iA prog 259 #[.slice A xs.length c,x1,.bool x4] W fun e w'=>e=.returned (.tuple #[.int .i64 (iT (rfn xs (x1,0,0,x4,false)) xs.length),.bool (kL (rfn xs (x1,0,0,x4,false)) xs.length)])/\Below W.heap.size W w'):=fA fun W hb=>zBy A c xs x1 x4 W ((yB.of_own ho (by omega)).below hb)
 have HO:=fA ho
 have hput:zDd xs (x1,x2,x3,x4,x5)=if kL (rfn xs (x1,0,0,x4,false)) xs.length then xs.set (dG (rfn xs (x1,0,0,x4,false)) 0 xs.length) (x1,x2,x3,x4,x5) else xs.take (dG (rfn xs (x1,0,0,x4,false)) 0 xs.length) ++ [(x1,x2,x3,x4,x5)] ++ xs.drop (dG (rfn xs (x1,0,0,x4,false)) 0 xs.length):=rfl
 rw [hput]
 clear hput
 have HI:jC (iT (rfn xs (x1,0,0,x4,false)) xs.length=((dG (rfn xs (x1,0,0,x4,false)) 0 xs.length:Nat):Int)):=rfl
 have hle:=(zEm (rfn xs (x1,0,0,x4,false)) 0 xs.length (Nat.zero_le _)).2
 have hltt:kL (rfn xs (x1,0,0,x4,false)) xs.length=true -> dG (rfn xs (x1,0,0,x4,false)) 0 xs.length<xs.length:=fun hB=>by unfold kL at hB;simp at hB;exact hB.1
 rw [HI.out] at HFI
 generalize dG (rfn xs (x1,0,0,x4,false)) 0 xs.length=m at *
 have hm0:(0:Int)<=(m:Int):=by omega
 clear ho
 cases hB:kL (rfn xs (x1,0,0,x4,false)) xs.length with
 | true =>
  rw [if_pos rfl]
  have hm:=hltt hB
  rw [hB] at HFI
  clear hB
  have hm1:(m:Int)<(xs.length:Int):=by omega
  obtain ⟨g,rfl⟩:∃ g,A=yA ⟨g,0,none⟩:=by
   obtain ⟨g,c',hv,_⟩:=HO.out.form (by omega)
   injection hv with e
   exact ⟨g,e⟩
  have hgo:=qC HO.out g (by simp [zB])
  have hgb:=hgo.1
  have hgl:=hgo.2
  have q:∀ j u,j<5 -> (fJ (xs[m]'hm))[j]?=yA u -> w.cell? ⟨g,m * 5+j,none⟩=yA u:=fun j u hj hu=>mH HO.out (by rw [tK iO hm hj];exact hu)
  have q0:w.cell? ⟨g,m * 5,none⟩=_:=q 0 _ (by decide) rfl
  have q1:=q 1 _ (by decide) rfl
  have q2:=q 2 _ (by decide) rfl
  have q3:=q 3 _ (by decide) rfl
  have q4:=q 4 _ (by decide) rfl
  have HF:=fA (mG HO.out)
  clear hltt hgo q
  go_enter func289,ntmps289
  go_wp2_with (go_at_call 259;refine (HFI.out _ hal).mono ?_;rintro e w2 ⟨rfl,hb2⟩;have hb02:=hal.trans (hb2.mono hal.size);have g2:=kA hb2 gX;obtain ⟨e0,e1,e2,e3,e4,_,_,_,_,_,elt⟩:=yG g2;have r0:=((bcell hb02).1 g (m * 5) hgl).trans q0;have r1:=((bcell hb02).1 g (m * 5+1) hgl).trans q1;have r2:=((bcell hb02).1 g (m * 5+2) hgl).trans q2;have r3:=((bcell hb02).1 g (m * 5+3) hgl).trans q3;have r4:=((bcell hb02).1 g (m * 5+4) hgl).trans q4;have f0:=((bcell hb02).2 g (m * 5) hgl).trans (HF.out _);have f1:=((bcell hb02).2 g (m * 5+1) hgl).trans (HF.out _);have f2:=((bcell hb02).2 g (m * 5+2) hgl).trans (HF.out _);have f3:=((bcell hb02).2 g (m * 5+3) hgl).trans (HF.out _);have f4:=((bcell hb02).2 g (m * 5+4) hgl).trans (HF.out _))
  have HN:=mR iO (jB HO.out hb02) rfl hm (x1,x2,x3,x4,x5)
  go_ret
  refine ⟨yA ⟨g,0,none⟩,c,by rw [lD];rfl,by rw [lD];exact HN,?_⟩
  exact ((((((hb02.mono hbase)).setCell (p:=⟨g,m * 5,none⟩) hgb _).setCell (p:=⟨g,m * 5+1,none⟩) hgb _).setCell (p:=⟨g,m * 5+2,none⟩) hgb _).setCell (p:=⟨g,m * 5+3,none⟩) hgb _).setCell (p:=⟨g,m * 5+4,none⟩) hgb _
 | false =>
  rw [if_neg (by decide)]
  rw [hB] at HFI
  clear hB
  have HIN:jC (∀ W,Below w.heap.size w W -> W.heap.size > w.heap.size -> iA prog 345 #[.slice A xs.length c,(m:Int),.slice (yA ⟨W.heap.size,0,none⟩) 1 1] (W.alloc (.cells #[x1,x2,.int .u32 x3,.bool x4,.bool x5] 124)) (zDl 124 5 (xs.length+1) ((flat fJ xs).take (m * 5) ++ fJ (x1,x2,x3,x4,x5) ++ (flat fJ xs).drop (m * 5)) base A (W.alloc (.cells #[x1,x2,.int .u32 x3,.bool x4,.bool x5] 124)))):=fA fun W hb hW=>by
   have ha:=wA W (.cells #[x1,x2,.int .u32 x3,.bool x4,.bool x5] 124)
   have g:=rB W (.cells #[x1,x2,.int .u32 x3,.bool x4,.bool x5] 124)
   have o2:=jB (jB HO.out hb) ha
   have n2:W.heap.size ∉ zB A:=fun hc=>by have:=(qC HO.out _ hc).2;omega
   have l2:base<=(W.alloc (.cells #[x1,x2,.int .u32 x3,.bool x4,.bool x5] 124)).heap.size:=by have:=ha.size;omega
   generalize W.alloc (.cells #[x1,x2,.int .u32 x3,.bool x4,.bool x5] 124)=W2 at *
   exact zMm base c xs.length m W.heap.size A (flat fJ xs) (fJ (x1,x2,x3,x4,x5)) W2 l2 o2 g n2 rfl (jF zHl xs) (zHl _) hle (by omega)
  have HAB:jC (∀ x ∈ zB A,base<=x/\x<w.heap.size):=fA (qC HO.out)
  have el:(xs.take m ++ [(x1,x2,x3,x4,x5)] ++ xs.drop m).length=xs.length+1:=by simp;omega
  have ef:flat fJ (xs.take m ++ [(x1,x2,x3,x4,x5)] ++ xs.drop m)=(flat fJ xs).take (m * 5) ++ fJ (x1,x2,x3,x4,x5) ++ (flat fJ xs).drop (m * 5):=by
   rw [uD,uD,mL iO,wM iO];simp [flat]
  have hmE:m<(xs.take m ++ [(x1,x2,x3,x4,x5)] ++ xs.drop m).length:=by omega
  have hat:(xs.take m ++ [(x1,x2,x3,x4,x5)] ++ xs.drop m)[m]'hmE=(x1,x2,x3,x4,x5):=by
   rw [List.getElem_append_left (by simp;omega),List.getElem_append_right (by simp;omega)]
   simp
  have hse:(xs.take m ++ [(x1,x2,x3,x4,x5)] ++ xs.drop m).set m (x1,x2,x3,x4,x5)=xs.take m ++ [(x1,x2,x3,x4,x5)] ++ xs.drop m:=by
   have:=List.set_getElem_self hmE
   rwa [hat] at this
  have hm1:(m:Int)<(xs.length:Int)+1:=by omega
  have HEL:=fA el
  have HEF:=fA ef
  have HAT:=fA hat
  have HSE:=fA hse
  clear hltt el ef hat hse
  generalize xs.take m ++ [(x1,x2,x3,x4,x5)] ++ xs.drop m=ys at *
  go_enter func289,ntmps289
  go_wp2_with (first
   | (go_at_call 259;refine (HFI.out _ hal).mono ?_;rintro e w2 ⟨rfl,hb2⟩;have hb02:=hal.trans (hb2.mono hal.size);have g2:=kA hb2 gX;obtain ⟨e0,e1,e2,e3,e4,_,_,_,_,_,elt⟩:=yG g2)
   | (go_at_call 345;refine (HIN.out w2 hb02 elt).mono ?_;rintro e w4 ⟨A4,c4,rfl,own4,ch4,hA4⟩;rw [<- HEF.out] at own4;have own4':=own4;rw [<- HEL.out] at own4';obtain ⟨g,rfl⟩:∃ g,A4=yA ⟨g,0,none⟩:=(by obtain ⟨g,c',hv,_⟩:=own4'.form (by omega);injection hv with e;exact ⟨g,e⟩);have hgo:=qC own4' g (by simp [zB]);have hq4:jC (∀ j u,j<5 -> (fJ (x1,x2,x3,x4,x5))[j]?=yA u -> w4.cell? ⟨g,m * 5+j,none⟩=yA u):=fA (fun j u hj hu=>mH own4' (by rw [tK iO hmE hj,HAT.out];exact hu));have hf4:=fA (mG own4');have HO4:=fA own4';have hbw4:Below base w w4:=((hb02.alloc hb02.size _).mono hbase).trans (ch4.to_below (fun x hx=>(HAB.out x hx).1) (Nat.le_trans hbase (hb02.alloc hb02.size _).size));have g4:=ch4.keep (zF g2 _) (fun hc=>by have:=(HAB.out _ hc).2;omega);obtain ⟨v0,v1,v2,v3,v4,_,_,_,_,_,vlt⟩:=yG g4;have hgb:=hgo.1;clear own4 own4' hgo;have r0:w4.cell? ⟨g,m * 5,none⟩=_:=hq4.out 0 _ (by decide) rfl;have r1:=hq4.out 1 _ (by decide) rfl;have r2:=hq4.out 2 _ (by decide) rfl;have r3:=hq4.out 3 _ (by decide) rfl;have r4:=hq4.out 4 _ (by decide) rfl;have f0:=hf4.out (m * 5);have f1:=hf4.out (m * 5+1);have f2:=hf4.out (m * 5+2);have f3:=hf4.out (m * 5+3);have f4:=hf4.out (m * 5+4)))
  have HN:=mR iO HO4.out rfl hmE (x1,x2,x3,x4,x5)
  rw [HSE.out] at HN
  go_ret
  refine ⟨yA ⟨g,0,none⟩,c4,by rw [HEL.out];rfl,HN,?_⟩
  exact (((((hbw4.setCell (p:=⟨g,m * 5,none⟩) hgb _).setCell (p:=⟨g,m * 5+1,none⟩) hgb _).setCell (p:=⟨g,m * 5+2,none⟩) hgb _).setCell (p:=⟨g,m * 5+3,none⟩) hgb _).setCell (p:=⟨g,m * 5+4,none⟩) hgb _)
theorem xQ.later {α:Type} {base g:Nat} {lb:Array Value} {enc:α -> Value} {p:α -> Bool} {w w':uA} (h:xQ base g lb enc p w) (hb:Below base w w'):xQ base g lb enc p w':=fun W x hW=>h W x (hb.trans hW)
theorem zBp (A:Option mB) (c:Nat) (xs:List Rp) (gf:Nat) (lb:Array Value) (eg:∀ args w,(callFunc gf args).run prog w=.ok (.enter gf args) w) (p:Rp -> Bool) (w:uA) (h:yB fJ w A c xs) (hp:xQ w.heap.size gf lb (fun x:Rp=>vE (fJ x).toArray) p w):iA prog 220 #[.slice A xs.length c,.func (.func gf) #[] lb] w (mD 124 5 (nE p (rD xs)).length (flat fJ (nE p (rD xs))) w):=by
 have hmx:=h.max
 have hfl:=jL xs
 have HFA:=fA (zBx A c xs w h)
 generalize rD xs=ys at *
 have HDF:jC (∀ (W:uA) (A:Option mB) (c:Nat),Below w.heap.size w W -> W.ownsRow w.heap.size 124 5 (.slice A ys.length c) ys.length (flat fJ ys) -> iA prog 292 #[.slice A ys.length c,.func (.func gf) #[] lb] W (wY fJ w.heap.size 124 5 A c (nE p ys) W)):=fA fun W A c hb ho=>zJP A c ys w.heap.size gf lb eg p W hb.size ho (by omega) (hp.later hb)
 clear h hp
 go_enter func220,ntmps220
 go_wp2_with (first
  | (go_at_call 260;refine HFA.out.mono ?_;rintro e w1 ⟨A1,c1,rfl,own1,hb1⟩)
  | (go_at_call 292;refine (HDF.out _ _ _ hb1 own1).mono ?_;rintro e w2 ⟨rfl,own2,hb2⟩))
 go_ret
 exact ⟨A1,c1,rfl,own2,hb1.trans hb2⟩
def zGB (x:Rp):Bool:=x.2.2.2.1
def zGb (t:Int) (x:Rp):Bool:=decide (x.1=t) && !x.2.2.2.1
def eT (t:Int) (x:Rp):Bool:=decide (x.1=t) && x.2.2.2.1
theorem zHh (base:Nat) (w:uA):xQ base 221 #[] (fun x:Rp=>vE (fJ x).toArray) zGB w:=by
 rintro W ⟨x1,x2,x3,x4,x5⟩ hW
 have hal:=wA W (.cells #[x1,x2,.int .u32 x3,.bool x4,.bool x5] 124)
 show iA prog 221 #[.agg #[x1,x2,.int .u32 x3,.bool x4,.bool x5]] W fun e w'=>e=.returned (.bool x4)/\Below W.heap.size W w'
 go_enter func221,ntmps221
 go_wp2
 go_ret
 exact ⟨rfl,hal⟩
theorem zIJ (base C:Nat) (t:Int) (w:uA) (hC:C<base) (hc:w.cell? ⟨C,0,none⟩=yA (.int .i64 t)) (hl:C<w.heap.size):xQ base 261 #[(C,0)] (fun x:Rp=>vE (fJ x).toArray) (zGb t) w:=by
 rintro W ⟨x1,x2,x3,x4,x5⟩ hW
 have hal:=wA W (.cells #[x1,x2,.int .u32 x3,.bool x4,.bool x5] 124)
 have hcW:=((bcell hW).1 C 0 hC).trans hc
 have hlW:=tA hl hW.size
 show iA prog 261 #[.agg #[x1,x2,.int .u32 x3,.bool x4,.bool x5],.pointer (yA ⟨C,0,none⟩)] W fun e w'=>e=.returned (.bool (decide (x1=t) && !x4))/\Below W.heap.size W w'
 by_cases h:x1=t
 ·subst h
  go_enter func261,ntmps261
  go_wp2
  go_ret
  exact ⟨bC (by simp),hal⟩
 ·go_enter func261,ntmps261
  go_wp2
  go_ret
  exact ⟨bC (by simp [h]),hal⟩
theorem zJm (base C:Nat) (t:Int) (w:uA) (hC:C<base) (hc:w.cell? ⟨C,0,none⟩=yA (.int .i64 t)) (hl:C<w.heap.size):xQ base 304 #[(C,0)] (fun x:Rp=>vE (fJ x).toArray) (eT t) w:=by
 rintro W ⟨x1,x2,x3,x4,x5⟩ hW
 have hal:=wA W (.cells #[x1,x2,.int .u32 x3,.bool x4,.bool x5] 124)
 have hcW:=((bcell hW).1 C 0 hC).trans hc
 have hlW:=tA hl hW.size
 show iA prog 304 #[.agg #[x1,x2,.int .u32 x3,.bool x4,.bool x5],.pointer (yA ⟨C,0,none⟩)] W fun e w'=>e=.returned (.bool (decide (x1=t) && x4))/\Below W.heap.size W w'
 by_cases h:x1=t
 ·subst h
  go_enter func304,ntmps304
  go_wp2
  go_ret
  exact ⟨bC (by simp),hal⟩
 ·go_enter func304,ntmps304
  go_wp2
  go_ret
  exact ⟨bC (by simp [h]),hal⟩
theorem zDg (A:Option mB) (c:Nat) (xs:List Rp) (w:uA) (h:yB fJ w A c xs):iA prog 134 #[.slice A xs.length c] w (mD 124 5 (nE zGB (rD xs)).length (flat fJ (nE zGB (rD xs))) w):=by
 have HWI:=fA (zBp A c xs 221 #[] (yE func221 (by kernel_rfl) rfl) zGB w h (zHh _ w))
 clear h
 generalize nE zGB (rD xs)=ys at *
 go_enter func134,ntmps134
 go_wp2_with (go_at_call 220;refine HWI.out.mono ?_;rintro e w1 ⟨A1,c1,rfl,own1,hb1⟩)
 go_ret
 exact ⟨A1,c1,rfl,own1,hb1⟩
theorem zJn (A:Option mB) (c:Nat) (xs:List Rp) (t:Int) (w:uA) (h:yB fJ w A c xs):iA prog 225 #[.slice A xs.length c,t] w (mD 124 5 (nE (eT t) (rD xs)).length (flat fJ (nE (eT t) (rD xs))) w):=by
 obtain ⟨W,hW⟩:∃ W,W=w.alloc (.cells #[t] 3):=⟨_,rfl⟩
 have hb:Below w.heap.size w W:=by rw [hW];exact wA _ _
 have hg:W.heap[w.heap.size]?=yA (.cells #[t] 3):=by rw [hW];exact rB _ _
 have HWI:=fA (zBp A c xs 304 #[.pointer (yA ⟨w.heap.size,0,none⟩)] (yE func304 (by kernel_rfl) rfl) (eT t) W (h.below hb) (zJm _ w.heap.size t W (eB hg) (jA hg 0) (eB hg)))
 have HW:=fA hW
 clear h hg hW
 generalize nE (eT t) (rD xs)=ys at *
 go_enter func225,ntmps225
 go_wp2_with (go_at_call 220;rw [<- HW.out];refine HWI.out.mono ?_;rintro e w1 ⟨A1,c1,rfl,own1,hb1⟩)
 go_ret
 exact ⟨A1,c1,rfl,oC own1 hb.size,hb.trans (hb1.mono hb.size)⟩
def zDm (r:List Rp × Int) (w:uA) (en:Ending) (w':uA):Prop:=∃ A c,en=.returned (.tuple #[.slice A r.1.length c,r.2])/\w'.ownsRow w.heap.size 124 5 (.slice A r.1.length c) r.1.length (flat fJ r.1)/\Below w.heap.size w w'
def nN (xs:List Rp) (t:Int):List Rp × Int:=if kL (rfn (rD xs) (t,0,0,false,false)) (rD xs).length then (nE (zGb t) (rD xs),0) else ([],5)
theorem zIK (A:Option mB) (c:Nat) (xs:List Rp) (t:Int) (w:uA) (h:yB fJ w A c xs):iA prog 189 #[.slice A xs.length c,t] w (zDm (nN xs t) w):=by
 have hmx:=h.max
 have hfl:=jL xs
 obtain ⟨W,hW⟩:∃ W,W=w.alloc (.cells #[t] 3):=⟨_,rfl⟩
 have hb:Below w.heap.size w W:=by rw [hW];exact wA _ _
 have hg:W.heap[w.heap.size]?=yA (.cells #[t] 3):=by rw [hW];exact rB _ _
 have HWI:jC (∀ W',Below W.heap.size W W' -> iA prog 220 #[.slice A xs.length c,.func (.func 261) #[] #[.pointer (yA ⟨w.heap.size,0,none⟩)]] W' (mD 124 5 (nE (zGb t) (rD xs)).length (flat fJ (nE (zGb t) (rD xs))) W')):=fA fun W' hb'=>zBp A c xs 261 #[.pointer (yA ⟨w.heap.size,0,none⟩)] (yE func261 (by kernel_rfl) rfl) (zGb t) W' ((h.below hb).below hb') (zIJ _ w.heap.size t W' (eB (kA hb' hg)) (jA (kA hb' hg) 0) (eB (kA hb' hg)))
 have HFA:jC (∀ W',Below W.heap.size W W' -> iA prog 260 #[.slice A xs.length c] W' (mD 124 5 (rD xs).length (flat fJ (rD xs)) W')):=fA fun W' hb'=>zBx A c xs W' ((h.below hb).below hb')
 have HFI:jC (∀ (W':uA) (A:Option mB) (c:Nat),yB fJ W' A c (rD xs) -> iA prog 259 #[.slice A (rD xs).length c,t,.bool false] W' fun e w'=>e=.returned (.tuple #[.int .i64 (iT (rfn (rD xs) (t,0,0,false,false)) (rD xs).length),.bool (kL (rfn (rD xs) (t,0,0,false,false)) (rD xs).length)])/\Below W'.heap.size W' w'):=fA fun W' A c h=>zBy A c (rD xs) t false W' h
 have HW:=fA hW
 have hc0:W.cell? ⟨w.heap.size,0,none⟩=yA (.int .i64 t):=jA hg 0
 have hcl:=eB hg
 unfold nN
 clear h hg hW
 generalize nE (zGb t) (rD xs)=zs at *
 generalize rD xs=ys at *
 cases hB:kL (rfn ys (t,0,0,false,false)) ys.length with
 | false =>
  rw [hB] at HFI
  rw [if_neg (by decide)]
  go_enter func189,ntmps189
  go_wp2_with fail
  rw [<- HW.out]
  clear HW
  go_region_held3 (fun W=>W.cell? ⟨w.heap.size,0,none⟩=yA (.int .i64 t)) (first | exact hc0 | exact hc1 | exact hc2) (first
   | (go_at_call 260;refine (HFA.out _ (xC W).drew).mono ?_;rintro e w1 ⟨A1,c1,rfl,own1,hb1⟩;have f1:=yB.of_own (enc:=fJ) own1 (by omega);have hw1:=(xC W).drew.trans hb1;have hc1:=((bcell hb1).1 w.heap.size 0 hcl).trans hc0;have hcl1:=tA hcl hb1.size)
   | (go_at_call 259;refine (HFI.out _ _ _ f1).mono ?_;rintro e w2 ⟨rfl,hb2⟩;have hw2:=hw1.trans (hb2.mono hw1.size);have hc2:=((bcell hb2).1 w.heap.size 0 hcl1).trans hc1))
  go_wp2
  go_ret2
  exact ⟨none,0,rfl,nB _ _ _ _,hb.trans (hw2.mono hb.size)⟩
 | true =>
  rw [hB] at HFI
  rw [if_pos rfl]
  go_enter func189,ntmps189
  go_wp2_with fail
  rw [<- HW.out]
  clear HW
  go_region_held3 (fun W=>W.cell? ⟨w.heap.size,0,none⟩=yA (.int .i64 t)) (first | exact hc0 | exact hc1 | exact hc2) (first
   | (go_at_call 260;refine (HFA.out _ (xC W).drew).mono ?_;rintro e w1 ⟨A1,c1,rfl,own1,hb1⟩;have f1:=yB.of_own (enc:=fJ) own1 (by omega);have hw1:=(xC W).drew.trans hb1;have hc1:=((bcell hb1).1 w.heap.size 0 hcl).trans hc0;have hcl1:=tA hcl hb1.size)
   | (go_at_call 259;refine (HFI.out _ _ _ f1).mono ?_;rintro e w2 ⟨rfl,hb2⟩;have hw2:=hw1.trans (hb2.mono hw1.size);have hc2:=((bcell hb2).1 w.heap.size 0 hcl1).trans hc1))
  go_wp2_with (go_at_call 220;refine (HWI.out _ hw2).mono ?_;rintro e w3 ⟨A3,c3,rfl,own3,hb3⟩)
  go_ret2
  have hw02:=hb.trans (hw2.mono hb.size)
  exact ⟨A3,c3,rfl,oC own3 hw02.size,hw02.trans (hb3.mono hw02.size)⟩
end Go.Proofs.YtogbpifcmhafkaaGreat
