/-
 Part PR of the proof.
-/
import Derived.Test.YtogbpifcmhafkaaGreatPC
import Derived.StillTailTactics
open And renaming intro->gG
open Go renaming Addr->mB,Calls->iA,World->uA,maxLen->fC,wpList->yP
open Go.Builtin renaming clear_->jE
open Go.ChangeMaps renaming heap_setBlock_same->lS,setBlock->lP
open Go.Lib renaming hid->fA
open Go.Proofs renaming enters_of->yE
open Go.Proofs.Tryz renaming underlying153->zO
open Go.RowKit.Below renaming refl->cC
open Go.Value renaming oneCell'->qE
open Go.World renaming ownsRow_lit->iL,size_alloc->wB
open List renaming length_append->kB,map_append->gE
open Nat renaming le_refl->mA,le_trans->pA
open Option renaming some->yA
namespace Go.Proofs.YtogbpifcmhafkaaGreat
open Go.RowKit Tryz
open Go.Lib(hid)
set_option linter.unusedVariables false
set_option linter.unusedSimpArgs false
set_option maxRecDepth 100000
set_option maxHeartbeats 16000000
theorem uH.clear {w:uA} {M n:Nat} {l:List (Int × Value)} (h:uH w M n l) (ty:TypeId):∃ w',(jE #[153] ty #[.map (yA M)]).run prog w=.ok (.tuple #[]) w'/\uH w' M 0 []/\fD [M] w w':=by
 obtain ⟨es,clock,hb,F,hs⟩:=h
 refine ⟨lP w M (.map #[] clock),?_,⟨#[],clock,lS hb _,⟨by simp,MapKept.stamped_empty clock,by simp⟩,by simp,rfl⟩,qP ⟨es,clock,#[],clock,hb,rfl⟩⟩
 simp [jE,run_underlying zO,MapKept.run_getObj_map hb,MapKept.run_setObj_map _ hb,lP,Result.andThen]
theorem uH.len1 {w:uA} {M n:Nat} {u:Value} (h:uH w M n [(1,u)]) (ty:TypeId):(Builtin.len_ #[153] ty #[.map (yA M)]).run prog w=.ok (.int .i64 1) w:=World.ownsMap.len h zO ty
theorem zFz {w:uA} {ops:Array Oper} {rest:List Oper} {o:Oper} {a:Act} {Q:Exit -> Act -> uA -> Prop} (hgd:o.guard=none) (x:Operand)
  (ho:o.op=.call { callee:=.builtin .clear,args:=#[x],argTypes:=#[153] }) {b n:Nat} {l:List (Int × Value)} (hx:a.eval x=.map (yA b)) (hv:uH w b n l)
  (h:∀ w',uH w' b 0 [] -> fD [b] w w' -> yP prog ops Q rest (a.put o.dst (.tuple #[])) w'):yP prog ops Q (o :: rest) a w :=
 wpList_plain hgd fun K hK=>by
  obtain ⟨w',hrun,h2,h3⟩:=hv.clear o.type
  unfold Oper.wp execOp
  simp only [ho,resolve,invoke,builtin,Sem.run_bind,Sem.run_pure,Result.andThen_ok,List.map_toArray,List.map_cons,List.map_nil,hx,hrun]
  exact hK _ _ (h w' h2 h3)
theorem won1 (M Q O n:Nat) (u:Value) (w:uA) (h:w.heap[M]?=yA (mO 1 1 none 0 0 1 0 Q O)) (hQ:uH w Q n [(1,u)]):iA prog 81 #[(M,0)] w fun e w'=>e=.returned (.bool true)/\Below w.heap.size w w':=by
 have c8:=jA h 8
 have c9:=jA h 9
 have hl:=eB h
 have HM:Hid (∀ W,iA prog 152 #[.int .i64 1] W fun e w'=>e=.returned (.int .i64 1)/\W=w'):=fA fun W=>by
  go_enter func152,ntmps152
  go_wp2
  go_ret
  exact ⟨rfl,rfl⟩
 have HV:Hid (∀ n,Sem.run prog (Builtin.len_ #[153] 3 #[.map (yA Q)]) (w.drewN n)=.ok (.int .i64 1) (w.drewN n)):=fA fun n=>(hQ.chg (S:=[]) (w':=w.drewN n) ⟨rfl,rfl,rfl,mA _,fun _ _ _=>rfl⟩ (by simp)).len1 3
 clear hQ
 go_enter func81,ntmps81
 go_wp2
 go_quiet ((first | (rw [HV.out];exact ⟨rfl,rfl⟩) | (go_at_call 152;exact Calls.quiet_of_same ((HM.out _).mono fun _ _ h=>⟨h.1,h.2.symm⟩))))
 go_wp2
 go_ret
 exact ⟨rfl,Below.many (xC _) _⟩
theorem zPK (M Q O:Nat) (w:uA) (h:w.heap[M]?=yA (mO 0 0 none 0 0 0 0 Q O)) (hQ:uH w Q 0 []) (hO:w.heap[O]?=yA (pO 0 0)) (hMQ:M≠Q) (hOQ:O≠Q):iA prog 38 #[(M,0)] w fun e w'=>e=.returned (.slice none 0 0)/\∃ L c,w'.heap[M]?=yA (mO 1 1 L 1 c 2 1 Q O)/\Lo w' L 1/\(∀ x ∈ zB L,w.heap.size<=x)/\fD [M,Q,O] w w':=by
 have hMO:M≠O:=vX h hO (by decide)
 have hal:=wA w (.cells #[.pointer (yA ⟨M,0,none⟩)] 81)
 have gB:=rB w (.cells #[.pointer (yA ⟨M,0,none⟩)] 81)
 have h1:=kA hal h
 have HQ:=fA (hQ.below hal)
 have HO:=fA (kA hal hO)
 have hMw:=eB h
 have hQw:=hQ.lt
 have hOw:=eB hO
 obtain ⟨c0,c1,c2,c3,c4,c5,c6,c7,c8,c9,hlt⟩:=zQg h1
 have f1:=qB h1 1
 have f2:=qB h1 2
 have f6:=qB h1 6
 clear hQ hO h
 go_enter func38,ntmps38
 go_wp2
 have HC0:=fA (fD.of_below hal:fD [M,Q,O] w _)
 have q0:=jA gB 0
 have ql:=eB gB
 generalize w.alloc (.cells #[.pointer (yA ⟨M,0,none⟩)] 81)=W0 at *
 generalize hB:w.heap.size=B at *
 have hBM:M≠B:=by omega
 have HBE:=fA hB
 clear hB
 go_still_tail 14,(by kernel_rfl)
 show yP _ _ _ _ _ W0.drew
 have M1:(((W0.setCell ⟨M,1,none⟩ (.int .i64 1)).setCell ⟨M,2,none⟩ (.int .i64 1)).setCell ⟨M,6,none⟩ (.int .i64 1)).drew.heap[M]?=yA (mO 1 1 none 0 0 1 0 Q O):=iB (zD (i:=6) (zD (i:=2) (zD (i:=1) h1 (.int .i64 1)) (.int .i64 1)) (.int .i64 1))
 have B1:=iB (pC (i:=6) (pC (i:=2) (pC (i:=1) gB (Ne.symm hBM) (.int .i64 1)) (Ne.symm hBM) (.int .i64 1)) (Ne.symm hBM) (.int .i64 1))
 have O1:=iB (pC (i:=6) (pC (i:=2) (pC (i:=1) HO.out (Ne.symm hMO) (.int .i64 1)) (Ne.symm hMO) (.int .i64 1)) (Ne.symm hMO) (.int .i64 1))
 have C1:fD [M] W0 (((W0.setCell ⟨M,1,none⟩ (.int .i64 1)).setCell ⟨M,2,none⟩ (.int .i64 1)).setCell ⟨M,6,none⟩ (.int .i64 1)).drew:=((((fD.refl _ _).setCell (.inl (by simp)) _ _).setCell (.inl (by simp)) _ _).setCell (.inl (by simp)) _ _).drew
 have Q1:=HQ.out.chg C1 (by simpa using Ne.symm hMQ)
 have hBQ:B≠Q:=by omega
 have HC1:=fA ((((HC0.out.setCell (b:=M) (.inl (by simp)) 1 (.int .i64 1)).setCell (b:=M) (.inl (by simp)) 2 (.int .i64 1)).setCell (b:=M) (.inl (by simp)) 6 (.int .i64 1)).drew)
 go_wp2_with (refine zFz rfl (.tmp 36) (by rfl) (by rfl) Q1 ?_;intro w2 Q2 C2;have M2:=C2.keep M1 (by simpa using hMQ);have B2:=C2.keep B1 (by simpa using hBQ);have O2:=C2.keep O1 (by simpa using hOQ);have d0:=jA M2 0;have d8:=jA M2 8;have dl:=eB M2;have b0:=jA B2 0;have bl:=eB B2)
 have HC2:=fA (HC1.out.trans C2 fun x hx=>.inl (by simp at hx;simp [hx]))
 clear c0 c1 c2 c3 c4 c5 c6 c7 c8 c9 hlt f1 f2 f6 q0 ql M1 B1 O1 C1 Q1 gB h1 C2
 go_still_tail 8,(by kernel_rfl)
 show yP _ _ _ _ _ w2.drew
 refine yW rfl 153 4 (.tmp 40) (.tmp 44) (.const (.bool true)) (by rfl) zO (by rfl) (by rfl) (by rfl) (Q2.chg (S:=[]) (w':=w2.drew) ⟨rfl,rfl,rfl,mA _,fun _ _ _=>rfl⟩ (by simp)) (by decide) (by unfold fC;omega) ?_
 intro w3 Q3 C3
 have M3:=C3.keep (iB M2) (by simpa using hMQ)
 have B3:=C3.keep (iB B2) (by simpa using hBQ)
 have O3:=C3.keep (iB O2) (by simpa using hOQ)
 have HC3:=fA (HC2.out.drew.trans C3 fun x hx=>.inl (by simp at hx;simp [hx]))
 have HW:=fA (won1 M Q O _ _ w3 M3 Q3)
 have HM3:=fA M3
 have HO3:=fA O3
 have HB3:=fA B3
 have e0:=jA B3 0
 have el:=eB B3
 clear M2 B2 O2 Q2 d0 d8 dl b0 bl C3 M3 B3 O3 Q3
 go_wp2_with (first
  | (go_at_call 81;refine HW.out.mono ?_;rintro e w4 ⟨rfl,hb4⟩;have g0:=jA (kA hb4 HB3.out) 0;have gl:=eB (kA hb4 HB3.out);have HL:=fA (lead1 M Q O w4 (kA hb4 HM3.out) (kA hb4 HO3.out)))
  | (go_at_call 82;refine HL.out.mono ?_;rintro e w5 ⟨rfl,L,c,m5,l5,n5,C5⟩))
 go_ret
 exact ⟨rfl,L,c,m5,l5,fun x hx=>pA (HBE.out ▸ (HC3.out.below hb4).size) (n5 x hx),(HC3.out.below hb4).trans C5 fun x hx=>.inl (by simp at hx;rcases hx with rfl | rfl <;> simp)⟩
theorem head4 (K:Int) (n:Nat) (hK:0<=K/\K<256) (hn:n<=1000):∃ hd:List UInt8,hd.length=4/\hd.map pI=[.int .u8 83,.int .u8 K,.int .u8 ((n:Int) / 256),.int .u8 ((n:Int) % 256)]:=by
 obtain ⟨a,ha⟩:=zCV 83 (by omega) (by omega)
 obtain ⟨b,hb⟩:=zCV K hK.1 hK.2
 obtain ⟨c,hc⟩:=zCV ((n:Int) / 256) (by omega) (by omega)
 obtain ⟨d,hd⟩:=zCV ((n:Int) % 256) (by omega) (by omega)
 exact ⟨[a,b,c,d],rfl,by rw [ha,hb,hc,hd];rfl⟩
theorem fput1 (K:Int) (A:Option mB) (n c B:Nat) (w:uA) (h:Bs w B A n c) (hn:n<=1000) (hK:K=1\/K=2):iA prog 236 #[.agg #[K,.slice A n c]] w fun e w'=>∃ A' c',e=.returned (.tuple #[.slice A' (n+8) c',.int .i64 0])/\Bs w' w.heap.size A' (n+8) c'/\Below w.heap.size w w':=by
 obtain ⟨bs,rfl,hown⟩:=h
 obtain ⟨hd,hdl,hde⟩:=head4 K bs.length (by omega) hn
 have hb:=fA (dC.of_own hown)
 have HZ:=fA (zEW hown)
 have hs:=fA (fun W A c (h:bJ W A (hd ++ bs)) (hz:A=none -> 4+bs.length=0)=>(by
  have:=zMO A c (hd ++ bs) W h (by rw [kB,hdl];exact hz) (by rw [kB,hdl];omega)
  rwa [kB,hdl,show 4+bs.length+4=bs.length+8 by omega] at this:iA prog 308 #[.slice A (4+bs.length) c] W (mD 5 1 (bs.length+8) ((sealed (hd ++ bs)).map pI) W)))
 have hown0:=zOW (w:=w) (base:=w.heap.size) (e:=5) (size:=1) (.cells #[K,.slice A bs.length c] 327) #[.int .u8 83,.int .u8 K,.int .u8 ((bs.length:Int) / 256),.int .u8 ((bs.length:Int) % 256)] 4 (by omega) (by unfold fC;omega) rfl
 have HLE:Hid ((sealed (hd ++ bs)).length=bs.length+8):=fA (by rw [zFw,kB,hdl];omega)
 have hn2:(bs.length:Int)<=1000:=by omega
 have HH:=fA hde
 have HHL:=fA hdl
 clear hde hown hdl
 rcases hK with rfl | rfl
 all_goals go_enter func236,ntmps236
 all_goals go_wp2_with (first
  | (at_builtin;refine yC rfl (.tmp 32) (.tmp 34) rfl zBa w.heap.size (.slice (yA ⟨w.heap.size+1,0,none⟩) 4 4) 4 (hd.map pI) (by rfl) (by rw [HH.out];exact hown0) A bs.length c (bs.map pI) (by rfl) (by simp) ((dC.alloc hb.out _).alloc _) (zDp _) (by unfold fC;omega) (by omega) (by simp;omega) HZ.out ?_;intro a1 c1 w1 hown1 hg1 hat1;have hb1:Below w.heap.size w w1:=Below.appended (((cC _ _).alloc (mA _) _).alloc (by simp) _) hown0 hg1 (by simp;omega) (mA _);rw [<- gE] at hown1;clear hat1 hg1)
  | (go_at_call 308;refine (hs.out _ a1 c1 (dC.of_own hown1) (zEW hown1)).mono ?_;rintro e w2 ⟨a2,c2,rfl,hown2,hb2⟩))
 all_goals go_ret2
 all_goals exact ⟨a2,c2,rfl,⟨_,HLE.out,oC hown2 hb1.size⟩,bt hb1 hb2⟩
theorem zPb (B:Nat) (A:Option mB) (n c:Nat) (x S:Int) (s:Nat) (w:uA) (hS:S=(s:Int)) (h:Bs w B A n c) (hB:B<=w.heap.size) (hx:x=0\/x=1) (hs:s<=2) (hn:n<=1000):iA prog 307 #[.slice A n c,x,S] w fun e w'=>∃ A' c',e=.returned (.slice A' (n+s) c')/\Bs w' B A' (n+s) c'/\Below B w w' :=
 (put1 B A n c x S s w hS h hB hx hs hn).mono fun e w' ⟨A',c',h1,h2,h3,_⟩=>⟨A',c',h1,h2,h3.to_below (fun x hx=>by obtain ⟨bs,_,ho⟩:=h;exact (qC ho x hx).1) hB⟩
theorem Bs.lt {w:uA} {B:Nat} {A:Option mB} {n c:Nat} (h:Bs w B A n c):A=none -> n=0:=by obtain ⟨bs,_,ho⟩:=h;exact xT ho
theorem zRx (A : Option mB) (c : Nat) (xs : List Int) (w : uA) (h : yB kG w A c xs) (hx : ∀ x ∈ xs, x = 0 \/ x = 1) (hm : xs.length <= 8) : iA prog 235 #[.agg #[.slice A xs.length c, .slice none 0 0]] w fun e w' => ∃ A' n c', e = .returned (.tuple #[.slice A' n c', .int .i64 0]) /\ n <= 40 /\ Bs w' w.heap.size A' n c' /\ Below w.heap.size w w' := by
 have HC:=fA (fun W (hb:Below w.heap.size w W)=>zRc 306 (yE func306 (by kernel_rfl) rfl) (fun x w h=>oddF1 x h w) A c xs W (h.below hb) hx)
 have hal:=wA w (.cells #[.slice A xs.length c,.slice none 0 0] 324)
 have gF:=rB w (.cells #[.slice A xs.length c,.slice none 0 0] 324)
 have h255:¬ (255:Int)<(xs.length:Int):=by omega
 have hn8:(xs.length:Int)<=8:=by omega
 have HX:=fA hx
 have HI:=fA h
 obtain ⟨c0,c1,f0,f1,hlt⟩:=nJ gF
 clear h hx
 go_enter func235,ntmps235
 go_wp2_with (go_at_call 195;refine (HC.out _ hal).mono ?_;rintro e w1 ⟨rfl,hb1⟩;have hw1:=hal.trans (hb1.mono hal.size);have g1:=kA hb1 gF;obtain ⟨d0,d1,e0,e1,dlt⟩:=nJ g1)
 have hw2:=hw1.trans ((wA w1 (.cells #[.int .u8 (xs.length:Int)] 5)).mono hw1.size)
 have g2:=kA (wA w1 (.cells #[.int .u8 (xs.length:Int)] 5)) g1
 have own2:Bs (w1.alloc (.cells #[.int .u8 (xs.length:Int)] 5)) (w.heap.size+1) (yA ⟨w1.heap.size,0,none⟩) 1 1:=by
  have q:((w1.alloc (.cells #[.int .u8 (xs.length:Int)] 5)).ownsRow (w.heap.size+1) 5 1 (.slice (yA ⟨w1.heap.size,0,none⟩) 1 1) 1 [.int .u8 (xs.length:Int)]):=iL w1 #[.int .u8 (xs.length:Int)] 1 (by omega) (by decide) rfl
  exact Bs.snoc (bs:=[]) (n:=0) (by omega) (by omega) rfl q
 clear c0 c1 f0 f1 d0 d1 e0 e1
 generalize w1.alloc (.cells #[.int .u8 (xs.length:Int)] 5)=W1 at *
 obtain ⟨F,hF⟩:∃ F,F=w.heap.size:=⟨_,rfl⟩
 have hFl:=eB g2
 rw [<- hF] at g2 own2 hFl ⊢
 have HF:=fA hF
 have HB:=fA hw2
 have hFW:F+1<=W1.heap.size:=by omega
 clear hF hw2 hw1 hb1 g1 hlt dlt gF hal
 go_wp2_with fail
 go_loopw [5,32] (fun v i wr=>∃ (k:Nat) (a:Option mB) (n c':Nat),k<=xs.length/\i=.int .i64 k/\v=.slice a n c'/\n<=1+k * 2/\Bs wr (F+1) a n c'/\Below (F+1) W1 wr) (fun _ i _=>xs.length - (intOf i).toNat)
 case atStart=>exact ⟨0,_,1,1,by omega,rfl,rfl,by omega,own2,cC _ _⟩
 case round =>
  clear own2
  obtain ⟨k,a,n,c',hk,rfl,rfl,hn,hown,hbw⟩:=hrel
  have hs:=hbw.size
  have hbW:Below w.heap.size w wr:=HB.out.trans (hbw.mono (by have:=HF.out;omega))
  by_cases hlt:k<xs.length
  ·obtain ⟨b,off,rfl,blt,d0⟩:=uJ (HI.out.below hbW) hlt
   have hx:=HX.out _ (List.getElem_mem hlt)
   generalize (xs[k]'hlt)=x at *
   have hk0:(0:Int)<=(k:Int):=by omega
   have hk1:(k:Int)<(xs.length:Int):=by omega
   obtain ⟨bs,hl,own⟩:=hown
   rcases hx with rfl | rfl
   ·go_wp2_with (first
     | (go_at_call 234;refine (zLs 0 (.inl rfl) _).mono ?_;rintro e w' ⟨rfl,hw'⟩;subst hw')
     | (at_builtin;refine yC rfl (.tmp 36) (.tmp 40) rfl zBa (F+1) (.slice a n c') n (bs.map pI) (by rfl) (own.alloc _) (yA ⟨_,0,none⟩) 1 1 [.int .u8 0] (by rfl) (by rfl) (dC.new _ #[.int .u8 0] 5) (by simp [qE]) (by unfold fC;omega) (by omega) (by simp;omega) (by simp) ?_;intro a6 c6 w6 hown6 hg6 hat6;have hY:=fA (Bs.snoc (by decide) (by decide) hl hown6);have hb6:=Below.appended (hbw.alloc (by omega) _) (own.alloc _) hg6 (by simp;omega) (mA _);clear hown6 hg6 hat6)
     | (go_at_call 307;refine (zPb (F+1) a6 (n+1) c6 0 0 0 _ rfl hY.out (pA hFW hb6.size) (.inl rfl) (by omega) (by omega)).mono ?_;rintro e w7 ⟨a7,c7,rfl,hZ,hd7⟩;replace hZ:=fA hZ))
    go_roundw
    case rel=>exact ⟨k+1,a7,n+1+0,c7,by omega,by go_num,rfl,by omega,hZ.out,hb6.trans hd7⟩
    case measure=>simp [intOf];omega
   ·go_wp2_with (first
     | (go_at_call 234;refine (zLs 1 (.inr rfl) _).mono ?_;rintro e w' ⟨rfl,hw'⟩;subst hw')
     | (at_builtin;refine yC rfl (.tmp 36) (.tmp 40) rfl zBa (F+1) (.slice a n c') n (bs.map pI) (by rfl) (own.alloc _) (yA ⟨_,0,none⟩) 1 1 [.int .u8 1] (by rfl) (by rfl) (dC.new _ #[.int .u8 1] 5) (by simp [qE]) (by unfold fC;omega) (by omega) (by simp;omega) (by simp) ?_;intro a6 c6 w6 hown6 hg6 hat6;have hY:=fA (Bs.snoc (by decide) (by decide) hl hown6);have hb6:=Below.appended (hbw.alloc (by omega) _) (own.alloc _) hg6 (by simp;omega) (mA _);clear hown6 hg6 hat6)
     | (go_at_call 307;refine (zPb (F+1) a6 (n+1) c6 1 1 1 _ rfl hY.out (pA hFW hb6.size) (.inr rfl) (by omega) (by omega)).mono ?_;rintro e w7 ⟨a7,c7,rfl,hZ,hd7⟩;replace hZ:=fA hZ))
    go_roundw
    case rel=>exact ⟨k+1,a7,n+1+1,c7,by omega,by go_num,rfl,by omega,hZ.out,hb6.trans hd7⟩
    case measure=>simp [intOf];omega
  ·obtain rfl:k=xs.length:=by omega
   have c1r:wr.cell? ⟨F,1,none⟩=yA (.slice none 0 0):=((bcell hbw).1 F 1 (by omega)).trans (jA g2 1)
   have hfr:F+1<=wr.drew.heap.size:=pA hFW hs
   have HOW:=fA (show Bs wr.drew (F+1) a n c' from hown)
   clear hown
   have hk1:¬ (xs.length:Int)<(xs.length:Int):=by omega
   go_wp2_with fail
   go_region_held3 (fun W=>W.cell? ⟨F,1,none⟩=yA (.slice none 0 0)) (first | exact c1r | exact hc8 | exact hc9) (first
    | (go_at_call 307;refine (zPb (F+1) a n c' 0 2 2 _ rfl HOW.out hfr (.inl rfl) (by omega) (by omega)).mono ?_;rintro e w8 ⟨a8,c8,rfl,⟨bs8,hl8,hown8⟩,hd8⟩;have hd8':Below (F+1) wr w8:=(cC _ _).drew.trans hd8;have hc8:w8.cell? ⟨F,1,none⟩=yA (.slice none 0 0):=((bcell hd8').1 _ _ (by omega)).trans c1r;have HL8:=fA hl8;clear hl8)
    | (refine lN rfl (.tmp 51) (.tmp 53) rfl zBa (F+1) (.slice a8 (n+2) c8) (n+2) (bs8.map pI) (by rfl) hown8 none 0 0 [] (by rfl) (by rfl) .nil (fun u hu=>by cases hu) (by unfold fC;omega) (by omega) (pA hfr hd8.size) (fun _=>rfl) ?_;intro a9 c9 w9 hown9 hg9 hat9;have hd9:Below (F+1) wr w9:=Below.appended hd8' hown8 hg9 (pA hfr hd8.size) (mA _);have hc9:w9.cell? ⟨F,1,none⟩=yA (.slice none 0 0):=((bcell hd9).1 _ _ (by omega)).trans c1r;rw [List.append_nil] at hown9))
   go_wp2_with fail
   go_ret2
   exact ⟨a9,n+2,c9,rfl,by omega,⟨bs8,HL8.out,oC hown9 (by have:=HF.out;omega)⟩,hbW.trans (hd9.mono (by have:=HF.out;omega))⟩
theorem zLr (K:Int) (A N:Option mB) (n c cn B:Nat) (xs:List Int) (w:uA) (h:Bs w B A n c) (hB:B<=w.heap.size) (hN:yB kG w N cn xs) (hx:∀ x ∈ xs,x=0\/x=1) (hm:xs.length<=8) (hn:n<=500) (hK:K=1\/K=2):iA prog 164 #[.slice A n c,K,.slice N xs.length cn] w fun e w'=>∃ A' n' c',e=.returned (.slice A' n' c')/\n'<=n+60/\Bs w' B A' n' c'/\Below B w w':=by
 have HP:=fA (zRx N cn xs w hN hx hm)
 have HS:=fA h
 clear h hN hx
 go_enter func164,ntmps164
 go_wp2_with (first
  | (go_at_call 235;refine HP.out.mono ?_;rintro e w1 ⟨A1,n1,c1,rfl,hn1,s1,hb1⟩)
  | (go_at_call 236;refine (fput1 K A1 n1 c1 _ w1 s1 (by omega) hK).mono ?_;rintro e w2 ⟨A2,c2,rfl,⟨bs2,hl2,own2⟩,hb2⟩;have hw2:=hb1.trans (hb2.mono hb1.size);obtain ⟨bs0,hl0,own0⟩:=HS.out;have own0:=jB own0 hw2;have HL2:=fA hl2;have HL0:=fA hl0;clear hl0 hl2)
  | (at_builtin;refine yC rfl (.tmp 24) (.tmp 25) rfl zBa B (.slice A n c) n (bs0.map pI) (by rfl) own0 A2 (n1+8) c2 (bs2.map pI) (by rfl) (by rw [List.length_map,HL2.out];omega) (dC.of_own own2) (zDp _) (by unfold fC;omega) (by omega) (pA hB hw2.size) (zEW own2) ?_;intro a3 c3 w3 hown3 hg3 hat3;have hb3:=Below.appended (hw2.mono hB) own0 hg3 (pA hB hw2.size) (mA _);rw [<- gE] at hown3))
 go_ret
 exact ⟨a3,n+(n1+8),c3,rfl,by omega,⟨_,by rw [kB,HL0.out,HL2.out],hown3⟩,hb3⟩
theorem zIy (i:Int) (w:uA):iA prog 165 #[i,.agg zPQ.toArray] w fun e w'=>∃ X,e=.returned (.slice (yA ⟨X,0,none⟩) 8 8)/\yB kG w' (yA ⟨X,0,none⟩) 8 [i,1,0,0,0,0,0,0]/\Below w.heap.size w w':=by
 go_enter func165,ntmps165
 go_wp2
 go_ret
 have hr:=dC.new ((w.alloc (.cells zPQ.toArray 227)).alloc (.cells #[.int .i64 0,.int .i64 0,.int .i64 0,.int .i64 0,.int .i64 0,.int .i64 0] 99)) #[i,.int .i64 1,.int .i64 0,.int .i64 0,.int .i64 0,.int .i64 0,.int .i64 0,.int .i64 0] 3
 rw [wB,wB] at hr
 exact ⟨_,rfl,⟨hr,by simp,(fun h=>by cases h),by simp⟩,(yI w _ _).alloc (by rw [wB,wB];omega) _⟩
theorem odd1 (w:uA):iA prog 163 #[.agg zPQ.toArray] w fun e w'=>e=.returned (.bool false)/\Below w.heap.size w w':=by
 have hal:=wA w (.cells zPQ.toArray 227)
 have HC:=fA (fun X W (h:yB kG W (yA ⟨X,0,none⟩) 8 [0,1,0,0,0,0,0,0])=>zRc 233 (yE func233 (by kernel_rfl) rfl) (fun x w h=>oddV1 x h w) (yA ⟨X,0,none⟩) 8 [0,1,0,0,0,0,0,0] W h (by decide))
 go_enter func163,ntmps163
 go_wp2_with (first
  | (go_at_call 165;refine (zIy 0 _).mono ?_;rintro e w1 ⟨X,rfl,h1,hb1⟩)
  | (go_at_call 195;refine (HC.out X _ h1).mono ?_;rintro e w2 ⟨rfl,hb2⟩))
 go_ret
 exact ⟨rfl,(hal.trans (hb1.mono hal.size)).trans (hb2.mono (pA hal.size hb1.size))⟩
theorem zQw (L : Option mB) (c : Nat) (w : uA) (h : Lo w L 1) : iA prog 162 #[.slice L 1 c, .func (.func 163) #[] #[]] w fun e w' => e = .returned (.bool false) /\ Below w.heap.size w w' := by
 have eg:=yE func163 (by kernel_rfl) rfl
 have HI:Hid (iA prog 232 #[.slice L 1 c,.func (.func 163) #[] #[]] w fun e w'=>e=.returned (.int .i64 (-1))/\Below w.heap.size w w'):=fA (by
  have HL:=fA h
  go_enter func232,ntmps232
  go_wp2
  go_loopw [8] (fun i wr=>(i=.int .i64 0\/i=.int .i64 1)/\Below w.heap.size w wr) (fun i _=>1 - (intOf i).toNat)
  case atStart=>exact ⟨.inl rfl,xC _⟩
  case round =>
   obtain ⟨rfl | rfl,hb⟩:=hrel
   ·rcases HL.out.below hb with h | ⟨_,b,o,rfl,hl,c0,c1,c2,c3,c4,c5,c6⟩
    ·cases h
    go_wp2_with (go_at_call 163;refine (odd1 _).mono ?_;rintro e w1 ⟨rfl,hb1⟩)
    go_roundw
    case rel=>exact ⟨.inr rfl,hb.trans (hb1.mono hb.size)⟩
    case measure=>simp [intOf]
   ·go_wp2
    go_ret
    exact ⟨rfl,hb⟩)
 clear h
 go_enter func162,ntmps162
 go_wp2_with (go_at_call 232;refine HI.out.mono ?_;rintro e w1 ⟨rfl,hb1⟩)
 go_ret
 exact ⟨rfl,hb1⟩
theorem zLg (L:Option mB) (c:Nat) (w:uA) (h:Lo w L 1):iA prog 149 #[.slice L 1 c] w fun e w'=>∃ A' c',e=.returned (.slice A' 1 c')/\Lo w' A' 1/\(∀ x ∈ zB A',w.heap.size<=x)/\1<=c'/\Below w.heap.size w w':=by
 rcases h with h | ⟨_,b,o,rfl,hl,c0,c1,c2,c3,c4,c5,c6⟩
 ·cases h
 have hr:dC w (yA ⟨b,o,none⟩) zPQ:=.inr ⟨b,o,rfl,hl,fun i u hi=>by
  match i,hi with
  | 0,hi=>injection hi with hi;subst hi;exact c0
  | 1,hi=>injection hi with hi;subst hi;exact c1
  | 2,hi=>injection hi with hi;subst hi;exact c2
  | 3,hi=>injection hi with hi;subst hi;exact c3
  | 4,hi=>injection hi with hi;subst hi;exact c4
  | 5,hi=>injection hi with hi;subst hi;exact c5
  | 6,hi=>injection hi with hi;subst hi;exact c6⟩
 have hnil:∀ w,(binOp .eql 43 (.slice (yA ⟨b,o,none⟩) 1 c) (.slice none 0 0)).run prog w=.ok (.bool false) w:=fun w=>Lib.run_eql_slice_nil (P:=prog) w 43 227 (yA ⟨b,o,none⟩) 1 c 0 0 underlying43
 clear c0 c1 c2 c3 c4 c5 c6
 go_enter func149,ntmps149
 go_wp2_with (at_builtin;refine yC rfl (.tmp 5) (.tmp 6) rfl zLl w.heap.size _ 0 [] (by rfl) (iL w #[] 0 (mA _) (by unfold fC;omega) (by rfl)) _ _ _ zPQ (by rfl) (by rfl) (dC.alloc hr _) (by intro u hu;simp at hu;rcases hu with rfl | rfl <;> rfl) (by unfold fC;omega) (by omega) (by simp) (fun h=>by cases h) ?_;intro a1 c1 w1 hown hg hat)
 have hb1:Below w.heap.size w w1:=Below.appended ((cC _ _).alloc (mA _) _) (iL (e:=227) (size:=7) w #[] 0 (mA _) (by unfold fC;omega) (by rfl)) hg (by simp) (mA _)
 go_wp2
 go_ret
 exact ⟨a1,c1,rfl,Lo.of_row (dC.of_own hown),fun x hx=>(qC hown x hx).1,fP hown,hb1⟩
theorem zRU (V:Nat) (L:Option mB) (lc:Nat) (w:uA) (hV:w.heap[V]?=yA (vO none 0 0 0 0 0 none 0 0)) (hL:Lo w L 1):iA prog 96 #[.pointer (yA ⟨V,0,none⟩),.agg #[.int .i64 1,.int .i64 1],zLo L 1 lc] w fun e w'=>e=.returned (.int .i64 0)/\∃ D n c L' lc',w'.heap[V]?=yA (vO D n c 0 1 1 L' 1 lc')/\fD [V] w w':=by
 have HMB:=fA (fun W=>zRj 1 1 W ⟨rfl,.inr rfl⟩)
 have HML:=fA (fun W (hb:Below w.heap.size w W)=>zRF L 1 lc W (hL.below hb))
 have HOD:=fA (fun W (hb:Below w.heap.size w W)=>zQw L lc W (hL.below hb))
 have hal:=yI w (.cells #[.int .i64 1,.int .i64 1] 142) (.cells #[.int .i64 0,.int .i64 0,.slice L 1 lc] 148)
 have g0:=bG w (.cells #[.int .i64 1,.int .i64 1] 142) (.cells #[.int .i64 0,.int .i64 0,.slice L 1 lc] 148)
 have g1:=sF w (.cells #[.int .i64 1,.int .i64 1] 142) (.cells #[.int .i64 0,.int .i64 0,.slice L 1 lc] 148)
 have gV:=kA hal hV
 have hVw:=eB hV
 obtain ⟨b0,b1,bf0,bf1,blt⟩:=nJ g0
 obtain ⟨l0,l1,l2,lf0,lf1,lf2,llt⟩:=vH g1
 have HL:=fA hL
 have HN:∀ W,(binOp .neq 142 (.agg #[.int .i64 1,.int .i64 1]) (.agg #[.int .i64 0,.int .i64 0])).run prog W=.ok (.bool true) W:=fun W=>by kernel_rfl
 clear hL
 go_enter func96,ntmps96
 go_upto_region 4 with (first
  | (go_at_call 150;refine (HMB.out _).mono ?_;rintro e w1 ⟨rfl,hb1⟩;have hw1:=hal.trans (hb1.mono hal.size);obtain ⟨x0,x1,x2,x3,x4,x5,x6⟩:=vH (kA hb1 g1))
  | (go_at_call 151;refine (HML.out _ hw1).mono ?_;rintro e w2 ⟨rfl,hb2⟩;have hw2:=hw1.trans (hb2.mono hw1.size);obtain ⟨y0,y1,y2,y3,y4,y5,y6⟩:=vH (kA hb2 (kA hb1 g1)))
  | (go_at_call 162;refine (HOD.out _ hw2).mono ?_;rintro e w3 ⟨rfl,hb3⟩;have hw3:=hw2.trans (hb3.mono hw2.size);have v3:=jA (kA hb3 (kA hb2 (kA hb1 gV))) 0)
  | (go_at_call 76;refine (tV none 0 [] _ .nil (fun _=>rfl) (by decide)).mono ?_;rintro e w4 ⟨D,dc,rfl,own4,hb4⟩;have hw4:=hw3.trans (hb4.mono hw3.size)))
 have hb04:=((hb1.trans (hb2.mono hb1.size)).trans (hb3.mono (pA hb1.size hb2.size))).trans (hb4.mono (pA (pA hb1.size hb2.size) hb3.size))
 have hz3:w.heap.size+2<=w3.heap.size:=by have:=hb1.size;have:=hb2.size;have:=hb3.size;rw [wB,wB] at *;omega
 have HK:=fA (fun W (hb:Below (w.heap.size+2) w4 W)=>gG ((hb.block _ (by omega)).trans (kA hb04 g0)) (gG ((hb.block _ (by omega)).trans (kA hb04 g1)) ((hb.block V (by omega)).trans (kA hb04 gV))))
 have hz4:=pA hz3 hb4.size
 clear b0 b1 bf0 bf1 blt l0 l1 l2 lf0 lf1 lf2 llt x0 x1 x2 x3 x4 x5 x6 y0 y1 y2 y3 y4 y5 y6 v3 g0 g1 gV hV
 obtain ⟨k0,k1,kV⟩:=HK.out w4 (cC _ _)
 have b0:=jA k0 0
 have b1:=jA k0 1
 have v2:=jA kV 2
 have v3:=jA kV 3
 have v4:=jA kV 4
 have bl:=eB k0
 have ll:=eB k1
 have vl:=eB kV
 have l2:=jA k1 2
 go_quiet (fail)
 have hq5:=Below.many (xC w4) nq
 generalize w4.drewN nq=w5 at *
 have own5:Bs (w5.alloc (.cells #[.int .i64 1,.int .i64 1] 3)) (w.heap.size+2) D 0 dc:=⟨[],rfl,jB (jB (oC own4 hz3) hq5) (wA _ _)⟩
 have hw5:=hw4.trans (hq5.mono hw4.size)
 have HF:Hid (yB kG (w5.alloc (.cells #[.int .i64 1,.int .i64 1] 3)) (yA ⟨w5.heap.size,0,none⟩) 2 [1,1]):=fA ⟨dC.new w5 _ _,by decide,(fun h=>by cases h),by decide⟩
 have hq6:=hq5.trans ((wA w5 (.cells #[.int .i64 1,.int .i64 1] 3)).mono hq5.size)
 have hw6:=hw4.trans (hq6.mono hw4.size)
 have HR:=fA (zLr 1 D (yA ⟨w5.heap.size,0,none⟩) 0 dc 2 (w.heap.size+2) [1,1] _ own5 (pA hz4 hq6.size) HF.out (by decide) (by decide) (by decide) (.inl rfl))
 obtain ⟨k0,k1,kV⟩:=HK.out w5 (hq5.mono hz4)
 clear b0 b1 v2 v3 v4 bl ll vl l2 own5 HF
 have b0:=jA k0 0
 have b1:=jA k0 1
 have bl:=eB k0
 go_upto_region 7 with (go_at_call 164;refine HR.out.mono ?_;rintro e w7 ⟨D7,n7,c7,rfl,hn7,s7,hb7⟩)
 have hb47:=(hq6.mono hz4).trans hb7
 have hs7:=hb7.size
 have hz7:w.heap.size+2<=w7.heap.size:=pA (pA hz4 hq6.size) hs7
 obtain ⟨k0,k1,kV⟩:=HK.out w7 hb47
 clear b0 b1 bl
 go_loopw [8] (fun i wr=>i=.int .i64 0/\Below w7.heap.size w7 wr) (fun _ _=>0)
 case atStart=>exact ⟨rfl,xC _⟩
 case round =>
  obtain ⟨rfl,hb8⟩:=hrel
  have hb48:=hb47.trans (hb8.mono hz7)
  have hs8:=hb8.size
  obtain ⟨k0,k1,kV⟩:=HK.out wr hb48
  have l2:=jA k1 2
  have v4:=jA kV 4
  have ll:=eB k1
  have vl:=eB kV
  have hmn:min (1:Int) (0:Int)=0:=by decide
  go_wp2_with fail
  go_quiet (fail)
  have hq9:=Below.many (xC wr) nq
  generalize wr.drewN nq=w9 at *
  have hb9:=hb48.trans (hq9.mono (pA hz7 hs8))
  obtain ⟨k0,k1,kV⟩:=HK.out w9 hb9
  clear l2 v4 ll vl
  have l2:=jA k1 2
  have v4:=jA kV 4
  have ll:=eB k1
  have vl:=eB kV
  go_upto_region 11 with fail
  have hsl:∀ W,(Instr.slice 43 (.slice L 1 lc) (yA (.int .i64 0)) none none).run prog W=.ok (.slice L 1 lc) W:=fun W=>by
   have:=eK (P:=prog) zLl L 1 lc 0 (by omega) W
   rwa [show cutS L lc 0 7=L by unfold cutS;split;rfl;exact zCa L 7] at this
  go_wp2
  have s9:Bs w9 (w.heap.size+2) D7 n7 c7:=by obtain ⟨bs,hl,ho⟩:=s7;exact ⟨bs,hl,jB (jB ho hb8) hq9⟩
  have HW4:=fA hw4
  have HZ4:=fA hz4
  clear hsl hmn l2 v4 ll vl k0 k1 kV
  go_loopw [7,95] (fun v i wr=>∃ (k n:Nat) (D:Option mB) (c:Nat),k<=1/\i=.int .i64 (k:Int)/\v=.slice D n c/\n<=60+60 * k/\Bs wr (w.heap.size+2) D n c/\Below (w.heap.size+2) w4 wr) (fun _ i _=>1 - (intOf i).toNat)
  case atStart=>exact ⟨0,n7,D7,c7,by omega,rfl,rfl,by omega,s9,hb9⟩
  case round =>
   obtain ⟨k,n,D9,c9,hk,rfl,rfl,hn,s10,hb10⟩:=hrel
   have hw10:=HW4.out.trans (hb10.mono (by omega))
   have hz10:w.heap.size+2<=wr.heap.size:=pA HZ4.out hb10.size
   by_cases hk0:k=0
   ·subst hk0
    rcases HL.out.below hw10 with h | ⟨_,b,o,rfl,hl,c0,c1,c2,c3,c4,c5,c6⟩
    ·cases h
    have HR2:=fA (fun X W (hN:yB kG W (yA ⟨X,0,none⟩) 8 [1,1,0,0,0,0,0,0]) (hs:Bs W (w.heap.size+2) D9 n c9) (hz:w.heap.size+2<=W.heap.size)=>zLr 2 D9 (yA ⟨X,0,none⟩) n c9 8 (w.heap.size+2) [1,1,0,0,0,0,0,0] W hs hz hN (by decide) (by decide) (by omega) (.inr rfl))
    have HS10:=fA s10
    go_wp2_with (first
     | (go_at_call 165;refine (zIy 1 _).mono ?_;rintro e w11 ⟨X,rfl,f11,hb11⟩;have hb11':=(wA wr (.cells zPQ.toArray 227)).trans (hb11.mono (wA wr _).size))
     | (go_at_call 164;refine (HR2.out X _ f11 (by obtain ⟨bs,hl,ho⟩:=HS10.out;exact ⟨bs,hl,jB ho hb11'⟩) (pA hz10 hb11'.size)).mono ?_;rintro e w12 ⟨D12,n12,c12,rfl,hn12,s12,hb12⟩))
    go_roundw
    case rel=>exact ⟨1,n12,D12,c12,by omega,rfl,rfl,by omega,s12,(hb10.trans (hb11'.mono hz10)).trans hb12⟩
    case measure=>simp [intOf]
   ·obtain rfl:k=1:=by omega
    have hlen:¬ (65536:Int)<(n:Int):=by omega
    obtain ⟨k0,k1,kV⟩:=HK.out wr hb10
    have HCE:=fA (fun W (hb:Below w.heap.size w W)=>zLg L lc W (HL.out.below hb))
    have hne0:w.heap.size≠V:=by omega
    have hne1:w.heap.size+1≠V:=by omega
    go_upto_region 18 with fail
    have b0:=jA k0 0
    have b1:=jA k0 1
    have l2:=jA k1 2
    have bl:=eB k0
    have ll:=eB k1
    have vl:=eB kV
    go_region_held3 (fun W=>W.cell? ⟨w.heap.size,0,none⟩=yA (.int .i64 1)/\W.cell? ⟨w.heap.size,1,none⟩=yA (.int .i64 1)/\W.cell? ⟨w.heap.size+1,2,none⟩=yA (.slice L 1 lc)) (first | with_reducible exact ⟨b0,b1,l2⟩ | with_reducible exact ⟨q0,q1,q2⟩ | with_reducible exact ⟨p0,p1,p2⟩ | with_reducible exact ⟨r0,r1,r2⟩ | go_keep) ((go_at_call 149;refine (HCE.out _ hw10.drew).mono ?_;rintro e w11 ⟨A11,c11,rfl,_,_,_,hb11⟩;have G0:=kA hb11 (iB k0);have G1:=kA hb11 (iB k1);have GV:=kA hb11 (iB kV);have hw11:=hw10.drew.trans (hb11.mono hw10.size);obtain ⟨r0,r1,rf0,rf1,rlt⟩:=nJ G0;obtain ⟨_,_,r2,_,_,_,rlt1⟩:=vH G1;obtain ⟨d0,d1,d2,d3,d4,e0,e1,e2,e3,e4,dlt⟩:=zLE GV;have P0:=pC (i:=0) G0 hne0 (.slice D9 n c9);have P1:=pC (i:=0) G1 hne1 (.slice D9 n c9);obtain ⟨p0,p1,_⟩:=nJ P0;obtain ⟨_,_,p2,_⟩:=vH P1;have Q0:=pC (i:=4) (pC (i:=3) (pC (i:=2) P0 hne0 (.int .i64 1)) hne0 (.int .i64 1)) hne0 (.slice A11 1 c11);have Q1:=pC (i:=4) (pC (i:=3) (pC (i:=2) P1 hne1 (.int .i64 1)) hne1 (.int .i64 1)) hne1 (.slice A11 1 c11);obtain ⟨q0,q1,_⟩:=nJ Q0;obtain ⟨_,_,q2,_⟩:=vH Q1))
    all_goals go_wp2
    all_goals go_ret
    all_goals exact ⟨rfl,D9,n,c9,A11,c11,zD (i:=4) (zD (i:=3) (zD (i:=2) (zD (i:=0) GV (.slice D9 n c9)) (.int .i64 1)) (.int .i64 1)) (.slice A11 1 c11),((((fD.of_below hw11).setCell (.inl (by simp)) 0 _).setCell (.inl (by simp)) 2 _).setCell (.inl (by simp)) 3 _).setCell (.inl (by simp)) 4 _⟩
end Go.Proofs.YtogbpifcmhafkaaGreat
