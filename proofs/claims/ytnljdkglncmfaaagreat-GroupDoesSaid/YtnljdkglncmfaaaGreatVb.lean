/-
  Part Vb of the proof.
-/
import Derived.Test.YtnljdkglncmfaaaGreatVaultV
import Derived.Test.YtnljdkglncmfaaaGreatBq
import Derived.Deep.CutBlock
import Derived.Test.YtnljdkglncmfaaaGreatVa
namespace Go.Proofs.YtnljdkglncmfaaaGreat
open Go.RowKit
set_option linter.unusedVariables false
theorem LogIn.setFrm {w:World} {A:Option Addr} {c:Nat} {es:List En} {base R:Nat} (h:LogIn w A c es) (hf:Frm base A es.length) (hR:R<base) (i:Nat) (v:Value):LogIn (w.setCell ⟨R,i,none⟩ v) A c es :=
  ⟨row_ne h.row (fun hx b o ha=>by
    have:=hf (fun h0=>hx (by rw [List.eq_nil_of_length_eq_zero h0];rfl)) b o ha
    omega) i v,h.cap,h.none_,h.max⟩
theorem LogIn.set3Frm {w:World} {A:Option Addr} {c:Nat} {es:List En} {base R:Nat} (h:LogIn w A c es) (hf:Frm base A es.length) (hR:R<base) (x y z:Value):LogIn (set3 w R x y z) A c es:=((h.setFrm hf hR 0 x).setFrm hf hR 1 y).setFrm hf hR 2 z
theorem LogIn.set2Frm {w:World} {A:Option Addr} {c:Nat} {es:List En} {base R:Nat} (h:LogIn w A c es) (hf:Frm base A es.length) (hR:R<base) (x y:Value):LogIn (set2 w R x y) A c es:=(h.setFrm hf hR 0 x).setFrm hf hR 1 y
def RetReadR (r:St × Nat) (w:World) (en:Ending) (w':World):Prop:=∃ A c,en=.returned (.tuple #[zV r.1.1 r.1.2.1,logV 0 0 A r.1.2.2.length c,.int .i64 r.2])∧LogIn w' A c r.1.2.2∧Frm w.heap.size A r.1.2.2.length∧Below w.heap.size w w'
set_option maxRecDepth 100000 in
set_option maxHeartbeats 12800000 in
theorem refRead_any (a : Option Addr) (cap : Nat) (bs : List UInt8) (w : World) (hb : CellsB w a bs) (hz : a = none → bs.length = 0) (hcap : bs.length ≤ cap) (hl : bs.length ≤ 900000) :
    Calls Tryz.prog 117 #[.slice a bs.length cap] w (RetReadR (readV bs) w):=by
  have HB:=Lib.hid hb
  have HZ:=Lib.hid hz
  clear hz
  obtain ⟨⟨g0,g1,g2⟩,hz3,hw3⟩:=alloc3 w (.cells #[.int .i64 0,.int .i64 0] 34) (.cells #[.int .i64 0,.int .i64 0,.slice none 0 0] 55) (.cells #[.int .i64 0,.int .i64 0,.slice none 0 0] 91)
  have HZ3:=Lib.hid hz3
  clear hz3
  go_enter Tryz.func117,Tryz.ntmps117
  go_upto_block 0 with fail
  go_cut [6] (fun i wx=>∃ (k:Nat) (t v:Int) (es:List En) (A:Option Addr) (c:Nat),i=.int .i64 k∧Hid (readV bs=((t,v,es),k))∧wx.heap[w.heap.size+2]?=some (.cells #[.int .i64 t,.int .i64 v,.slice A es.length c] 91)∧LogIn wx A c es∧Frm (w.heap.size+3) A es.length∧wx.heap[w.heap.size]?=some (.cells #[.int .i64 0,.int .i64 0] 34)∧wx.heap[w.heap.size+1]?=some (.cells #[.int .i64 0,.int .i64 0,.slice none 0 0] 55)∧Below w.heap.size w wx)
  case first =>
    go_wp2
    go_loopw [6] (fun i wr=>∃ (k:Nat) (t v:Int) (es:List En) (A:Option Addr) (c:Nat),k≤bs.length∧i=.int .i64 k∧Hid (StOk (t,v,es))∧Hid (SoFar bs k (t,v,es))∧wr.heap[w.heap.size+2]?=some (.cells #[.int .i64 t,.int .i64 v,.slice A es.length c] 91)∧LogIn wr A c es∧Frm (w.heap.size+3) A es.length∧wr.heap[w.heap.size]?=some (.cells #[.int .i64 0,.int .i64 0] 34)∧wr.heap[w.heap.size+1]?=some (.cells #[.int .i64 0,.int .i64 0,.slice none 0 0] 55)∧Below w.heap.size w wr) (fun i _=>bs.length - (intOf i).toNat)
    case atStart=>exact ⟨0,0,0,[],none,0,by omega,rfl,st0_ok,SoFar.start bs,g2,⟨RowAt.nil,Nat.le_refl _,fun _=>rfl,Nat.zero_le _⟩,fun h=>absurd rfl h,g0,g1,hw3⟩
    case round =>
      obtain ⟨k,t,v,es,A,c,hk,rfl,HOK,HSF,g2,hL,hF,g0,g1,hbw⟩:=hrel
      obtain ⟨sc0,sc1,sc2,sf0,sf1,sf2,slt⟩:=box3 g2
      have slt0:=slt
      by_cases hlt:k<bs.length
      · have hs2:=fun W=>slice_from a bs.length cap k hk W
        have hk0:(0:Int)≤(k:Int):=by omega
        have hk1:(k:Int)<(bs.length:Int):=by omega
        have HG:Hid (∀ W,CellsB W a bs → Calls Tryz.prog 136 #[.slice (cutA a cap k) (bs.length - k) (cap - k)] W (RetGet (getF (bs.drop k)) (getN (bs.drop k)) (getE (bs.drop k)) W)):=fun W h=>by
          have hl2:(bs.drop k).length=bs.length - k:=List.length_drop
          have:=refGet_any (cutA a cap k) (cap - k) (bs.drop k) W (h.cut cap k hcap) (by rw [hl2];omega) (by rw [hl2];exact cutA_none HZ.out) (by rw [hl2];omega)
          rwa [hl2] at this
        by_cases he:getE (bs.drop k)=0
        · have hn:=getN_pos he
          have hnl:k+getN (bs.drop k)≤bs.length:=by have h2:(bs.drop k).length=bs.length - k:=List.length_drop;omega
          have hfl:(getF (bs.drop k)).2.length≤1000000:=by have:=(putE_zero (get_put he).1).2;omega
          have HST:Hid (∀ W a4 c4,CellsB W a4 (getF (bs.drop k)).2 → (getF (bs.drop k)).2.length≤c4 → (a4=none → (getF (bs.drop k)).2.length=0) → LogIn W A c es → w.heap.size+3≤W.heap.size → Calls Tryz.prog 137 #[.agg #[.int .i64 t,.int .i64 v,.slice A es.length c],.agg #[.int .i64 (getF (bs.drop k)).1,.slice a4 (getF (bs.drop k)).2.length c4]] W (RetSt (w.heap.size+3) (t,v,es) (stepV (t,v,es) (getF (bs.drop k))) W)):=fun W a4 c4 h1 h2 h3 h4 h5=>refStep_any (w.heap.size+3) (t,v,es) A c _ a4 c4 _ W h4 hF h5 HOK.out h1 h2 h3 hfl
          cases hst:stepV (t,v,es) (getF (bs.drop k)) with
          | none =>
            have HEND:=Lib.hid (HSF.out.stop (readS_none he hst))
            rw [hst] at HST
            rw [he] at HG
            clear he hst hn
            generalize getN (bs.drop k)=n at HG hnl
            generalize getF (bs.drop k)=f at HG HST
            obtain ⟨K,D⟩:=f
            simp only at HST
            go_wp2_with (first
              | (go_at_call 136;refine (HG.out _ (HB.out.below hbw)).mono ?_;rintro e w4 ⟨a4,c4,rfl,hcells,hnone,⟨hle,hfar⟩,hd4⟩;have hv4:=zC w4 (.cells #[.int .i64 K,.slice a4 D.length c4] 156);have hd4':=hd4.trans (hv4.mono hd4.size);have g2b:=zA hd4' g2;have hL4:=hL.below hd4';have g0b:=zA hd4' g0;have g1b:=zA hd4' g1;have hb4:=hbw.trans (hd4'.mono hbw.size);have hb4s:=Nat.le_trans (Nat.succ_le_of_lt slt0) hd4'.size;have hcells4:=hcells.below hv4;obtain ⟨fc0,fc1,ff0,ff1,flt⟩:=box2 (zG w4 (.cells #[.int .i64 K,.slice a4 D.length c4] 156));obtain ⟨sc0,sc1,sc2,sf0,sf1,sf2,slt⟩:=box3 g2b)
              | (go_at_call 137;refine (HST.out _ a4 c4 hcells4 hle hnone hL4 hb4s).mono ?_;rintro e w5 ⟨A5,c5,rfl,hl5,hf5,hd5⟩;simp only [Option.getD_none] at hl5 hf5;have hd5':=hd5.trans ((zC w5 (.cells #[.int .i64 t,.int .i64 v,.slice A5 es.length c5] 91)).mono hd5.size);have g05:=zA hd5' g0b;have g15:=zA hd5' g1b;have g25:=zA hd5' g2b;have hb5:=hb4.trans (hd5'.mono hb4.size);have hL5:=hL4.below hd5';obtain ⟨sc0,sc1,sc2,sf0,sf1,sf2,slt⟩:=box3 g25))
            go_meet
            exact ⟨k,t,v,es,A,c,rfl,HEND,g25,hL5,hF,g05,g15,hb5⟩
          | some s' =>
            obtain ⟨t',v',es'⟩:=s'
            have HOK2:=Lib.hid (stepV_ok HOK.out hst)
            have HSF2:=Lib.hid (HSF.out.next he hst)
            rw [hst] at HST
            rw [he] at HG
            have hn0:0<getN (bs.drop k):=by omega
            clear he hst hn
            generalize getN (bs.drop k)=n at HG hnl HSF2 hn0
            generalize getF (bs.drop k)=f at HG HST
            obtain ⟨K,D⟩:=f
            simp only at HST
            have hwr:=zS (x:=(k:Int)+(n:Int)) (by omega) (by omega)
            go_wp2_with (first
              | (go_at_call 136;refine (HG.out _ (HB.out.below hbw)).mono ?_;rintro e w4 ⟨a4,c4,rfl,hcells,hnone,⟨hle,hfar⟩,hd4⟩;have hv4:=zC w4 (.cells #[.int .i64 K,.slice a4 D.length c4] 156);have hd4':=hd4.trans (hv4.mono hd4.size);have g2b:=zA hd4' g2;have hL4:=hL.below hd4';have g0b:=zA hd4' g0;have g1b:=zA hd4' g1;have hb4:=hbw.trans (hd4'.mono hbw.size);have hb4s:=Nat.le_trans (Nat.succ_le_of_lt slt0) hd4'.size;have hcells4:=hcells.below hv4;obtain ⟨fc0,fc1,ff0,ff1,flt⟩:=box2 (zG w4 (.cells #[.int .i64 K,.slice a4 D.length c4] 156));obtain ⟨sc0,sc1,sc2,sf0,sf1,sf2,slt⟩:=box3 g2b)
              | (go_at_call 137;refine (HST.out _ a4 c4 hcells4 hle hnone hL4 hb4s).mono ?_;rintro e w5 ⟨A5,c5,rfl,hl5,hf5,hd5⟩;simp only [Option.getD_some] at hl5 hf5;have hv5:=zC w5 (.cells #[.int .i64 t',.int .i64 v',.slice A5 es'.length c5] 91);have hd5':=hd5.trans (hv5.mono hd5.size);have g05:=zA hd5' g0b;have g15:=zA hd5' g1b;have g25:=zA hd5' g2b;have hb5:=hb4.trans (hd5'.mono hb4.size);have hL5:=hl5.below hv5;obtain ⟨sc0,sc1,sc2,sf0,sf1,sf2,slt⟩:=box3 g25;obtain ⟨tc0,tc1,tc2,tf0,tf1,tf2,tlt⟩:=box3 (zG w5 (.cells #[.int .i64 t',.int .i64 v',.slice A5 es'.length c5] 91))))
            exact ⟨⟨k+n,t',v',es',A5,c5,hnl,by simp,HOK2,HSF2,zZ g25 _ _ _,hL5.set3Frm hf5 (by omega) _ _ _,hf5,zBC g05 (by omega) _ _ _,zBC g15 (by omega) _ _ _,zO hb5 (by omega) _ _ _⟩,by simp [intOf];omega⟩
        · have hne:(getE (bs.drop k) != 0)=true:=by simpa using he
          have HEND:=Lib.hid (HSF.out.stop (readS_err he))
          clear he
          generalize getE (bs.drop k)=E at HG hne
          generalize getN (bs.drop k)=n at HG
          generalize getF (bs.drop k)=f at HG
          obtain ⟨K,D⟩:=f
          go_wp2_with (go_at_call 136;refine (HG.out _ (HB.out.below hbw)).mono ?_;rintro e w4 ⟨a4,c4,rfl,hcells,hnone,⟨hle,hfar⟩,hd4⟩;have hv4:=zC w4 (.cells #[.int .i64 K,.slice a4 D.length c4] 156);have hd4':=hd4.trans (hv4.mono hd4.size);have g2b:=zA hd4' g2;have hL4:=hL.below hd4';have g0b:=zA hd4' g0;have g1b:=zA hd4' g1;have hb4:=hbw.trans (hd4'.mono hbw.size);have hb4s:=Nat.le_trans (Nat.succ_le_of_lt slt0) hd4'.size;have hcells4:=hcells.below hv4;obtain ⟨fc0,fc1,ff0,ff1,flt⟩:=box2 (zG w4 (.cells #[.int .i64 K,.slice a4 D.length c4] 156));obtain ⟨sc0,sc1,sc2,sf0,sf1,sf2,slt⟩:=box3 g2b)
          go_meet
          exact ⟨k,t,v,es,A,c,rfl,HEND,g2b,hL4,hF,g0b,g1b,hb4⟩
      · have hkb:k=bs.length:=by omega
        have HEND:=Lib.hid (HSF.out.stop (by rw [List.drop_of_length_le (by omega)];exact zCE))
        have hk1:(bs.length:Int)≤(k:Int):=by omega
        go_wp2
        go_meet
        exact ⟨k,t,v,es,A,c,rfl,HEND,g2,hL,hF,g0,g1,hbw⟩
  case rest =>
    obtain ⟨k,t,v,es,A,c,rfl,HR,g2,hL,hF,g0,g1,hbw⟩:=hcut
    obtain ⟨s0,s1,s2,_,_,_,slt⟩:=box3 g2
    obtain ⟨b0,b1,bf0,bf1,blt⟩:=box2 g0
    obtain ⟨l0,l1,l2,lf0,lf1,lf2,llt⟩:=box3 g1
    obtain ⟨p0,p1,p2,_⟩:=box3 (zAM g2 (show w.heap.size+2≠w.heap.size by omega) (.int .i64 t) (.int .i64 v))
    obtain ⟨q0,q1,q2,_⟩:=box3 (zBC (zAM g2 (show w.heap.size+2≠w.heap.size by omega) (.int .i64 t) (.int .i64 v)) (show w.heap.size+2≠w.heap.size+1 by omega) (.int .i64 0) (.int .i64 0) (.slice A es.length c))
    go_wp2
    go_region_held3 (fun W=>W.cell? ⟨w.heap.size+2,0,none⟩=some (.int .i64 t)∧W.cell? ⟨w.heap.size+2,1,none⟩=some (.int .i64 v)∧W.cell? ⟨w.heap.size+2,2,none⟩=some (.slice A es.length c)) (first | with_reducible exact ⟨s0,s1,s2⟩ | with_reducible exact ⟨p0,p1,p2⟩ | with_reducible exact ⟨q0,q1,q2⟩ | go_keep) (fail)
    all_goals go_wp2
    all_goals (
      obtain ⟨e0,e1,_⟩:=box2 (zBC (zAA g0 (.int .i64 t) (.int .i64 v)) (show w.heap.size≠w.heap.size+1 by omega) (.int .i64 0) (.int .i64 0) (.slice A es.length c))
      obtain ⟨r0,r1,r2,_⟩:=box3 (zZ (zAM g1 (show w.heap.size+1≠w.heap.size by omega) (.int .i64 t) (.int .i64 v)) (.int .i64 0) (.int .i64 0) (.slice A es.length c))
      refine bodyPost_ret (v:=.tuple #[zV t v,logV 0 0 A es.length c,.int .i64 k]) (by simp [results,Tryz.results117,go_sem,e0,e1,r0,r1,r2,zV,logV]) rfl ?_
      rw [HR.out]
      exact ⟨A,c,rfl,((hL.set2Frm hF (by omega) _ _).set3Frm hF (by omega) _ _ _).below (zK _).drew,fun h b o ha=>by have:=hF h b o ha;omega,(zO (zP hbw (Nat.le_refl _) _ _) (by omega) _ _ _).drew⟩)
set_option maxHeartbeats 1600000 in
theorem refSync_any (R:Nat) (P:Nat → Prop) (x:Vt) (w:World) (h:RvAt w R P x) (hnR:¬ P R) (hl:x.1.length≤900000):Calls Tryz.prog 81 #[.pointer (some ⟨R,0,none⟩)] w fun e w'=>e=.returned (.tuple #[])∧RvAt w' R P (syncV x)∧Only R w w':=by
  obtain ⟨D,cd,A,c,g,p1,p2,p3,p4,p5,p6⟩:=h
  obtain ⟨bs,n,t,v,es⟩:=x
  simp only at g p1 p2 p3 p4 p5 p6
  obtain ⟨c0,c1,c2,c3,c4,f0,f1,f2,f3,f4,hlt⟩:=box5 g
  have P1:=Lib.hid p1
  have P2:=Lib.hid p2
  have P5:=Lib.hid p5
  clear p1 p2 p5
  unfold syncV
  go_enter Tryz.func81,Tryz.ntmps81
  go_wp2
  have hO:=(Only.refl R w).setCell 1 (.int .i64 (bs.length:Int))
  refine bodyPost_end (results_none rfl _ _ _) rfl ?_
  exact ⟨rfl,⟨D,cd,A,c,zQ (i:=1) g _,bytes_out P1.out hO p4 hnR,P2.out,p3,p4,P5.out.out hO p6 hnR,p6⟩,hO⟩
set_option maxRecDepth 100000 in
set_option maxHeartbeats 12800000 in
theorem refCrash_any (R:Nat) (P:Nat → Prop) (x:Vt) (keep:Int) (w:World) (h:RvAt w R P x) (hnR:¬ P R) (hRw0:R<w.heap.size) (hP0:∀ y,w.heap.size≤y → P y) (hx:VtOk x) (hl:x.1.length≤900000):Calls Tryz.prog 89 #[.pointer (some ⟨R,0,none⟩),.int .i64 keep] w fun e w'=>e=.returned (.tuple #[])∧RvAt w' R P (zAD x keep)∧Only R w w':=by
  have hcn:=crashN_le hx.sync keep
  obtain ⟨D,cd,A,c,g,p1,p2,p3,p4,p5,p6⟩:=h
  obtain ⟨bs,n,t,v,es⟩:=x
  have hsy:=hx.sync
  simp only at g p1 p2 p3 p4 p5 p6 hl hcn hsy
  unfold zAD
  simp only
  obtain ⟨lf,hlf⟩:∃ lf:Nat,(lf:Int)=max keep 0 % ((bs.length:Int) - (n:Int)+1):=⟨(max keep 0 % ((bs.length:Int) - (n:Int)+1)).toNat,by have:0≤max keep 0 % ((bs.length:Int) - (n:Int)+1):=Int.emod_nonneg _ (by omega);omega⟩
  have hm:zDC (bs,n,t,v,es) keep=n+lf:=by show n+(max keep 0 % ((bs.length:Int) - (n:Int)+1)).toNat=_;omega
  rw [hm] at hcn ⊢
  clear hm
  have hml:(bs.take (n+lf)).length=n+lf:=by rw [List.length_take];omega
  have HR:Hid (∀ W,CellsB W D bs → Calls Tryz.prog 117 #[.slice D (n+lf) cd] W (RetReadR (readV (bs.take (n+lf))) W)):=fun W h=>by
    have:=refRead_any D cd (bs.take (n+lf)) W (h.take (n+lf)) (fun h=>by have:=p2 h;omega) (by omega) (by omega)
    rwa [hml] at this
  have hr2:=readV_le (bs.take (n+lf))
  rw [hml] at hr2
  have htt:(bs.take (n+lf)).take (readV (bs.take (n+lf))).2=bs.take (readV (bs.take (n+lf))).2:=by rw [List.take_take,Nat.min_eq_left hr2]
  generalize readV (bs.take (n+lf))=r at HR hr2 htt ⊢
  obtain ⟨⟨t',v',es'⟩,k⟩:=r
  simp only at hr2 htt ⊢
  clear htt
  have hkl:(bs.take k).length=k:=by rw [List.length_take];omega
  have HKL:=Lib.hid hkl
  have P1:=Lib.hid p1
  have P2:=Lib.hid p2
  have P5:=Lib.hid p5
  have HLF:=Lib.hid hlf
  clear p1 p2 p5 hkl hml hx
  have hlfn:lf≤bs.length - n:=by omega
  have hkl2:k≤bs.length:=by omega
  obtain ⟨c0,c1,c2,c3,c4,f0,f1,f2,f3,f4,hlt⟩:=box5 g
  clear hlf
  go_enter Tryz.func89,Tryz.ntmps89
  go_upto_if 9 with fail
  go_cut [4] (fun d wx=>d=.int .i64 (lf:Nat)∧∃ m,wx=w.drewN m)
  case first =>
    by_cases hk:0<keep
    · have hmx:max keep 0=keep:=by omega
      have hb1:-9223372036854775808≤(bs.length:Int) - (n:Int)∧(bs.length:Int) - (n:Int)≤9223372036854775807:=by omega
      have hb2:-9223372036854775808≤(bs.length:Int) - (n:Int)+1∧(bs.length:Int) - (n:Int)+1≤9223372036854775807:=by omega
      have hw1:=zS hb1.1 hb1.2
      have hw2:=zS hb2.1 hb2.2
      have hne:(bs.length:Int) - (n:Int)+1≠0:=by omega
      go_wp2
      go_quiet (fail)
      go_wp2
      go_meet
      exact ⟨by rw [HLF.out,hmx],nq,rfl⟩
    · have hk2:keep≤0:=by omega
      have hz:(lf:Int)=0:=by rw [HLF.out,show max keep 0=0 by omega,Int.zero_emod]
      have HZ:=Lib.hid hz
      clear hz
      go_wp2
      go_meet
      exact ⟨by rw [HZ.out],0,rfl⟩
  case rest =>
    obtain ⟨rfl,m,rfl⟩:=hcut
    clear c0 c1 c2 c3 c4 f0 f1 f2 f3 f4 hlt
    have gm:=zI g m
    have hwm:=Below.many (zK w) m
    generalize w.drewN m=W at *
    obtain ⟨c0,c1,c2,c3,c4,f0,f1,f2,f3,f4,hlt⟩:=box5 gm
    have hb1:-9223372036854775808≤(n:Int)+(lf:Int)∧(n:Int)+(lf:Int)≤9223372036854775807:=by omega
    have hw1:=zS hb1.1 hb1.2
    have hs1:∀ Z,(Instr.slice 89 (.slice D bs.length cd) none (some (.int .i64 ((n:Int)+(lf:Int)))) none).run Tryz.prog Z=.ok (.slice D (n+lf) cd) Z:=fun Z=>by
      have:=slice_to D bs.length cd (n+lf) (by omega) Z
      rwa [Int.natCast_add] at this
    have HS1:=Lib.hid hs1
    have hs2:∀ Z,(Instr.slice 89 (.slice D bs.length cd) none (some (.int .i64 (k:Int))) none).run Tryz.prog Z=.ok (.slice D k cd) Z:=fun Z=>slice_to D bs.length cd k (by omega) Z
    have HS2:=Lib.hid hs2
    clear hs1 hs2
    have hs1:=HS1.out
    have hSk:∀ Z,Below (R+1) W Z → Z.cell? ⟨R,0,none⟩=some (.slice D bs.length cd)∧Z.cell? ⟨R,1,none⟩=some (.int .i64 (n:Nat))∧(Instr.slice 89 (.slice D bs.length cd) none (some (.int .i64 ((n:Int)+(lf:Int)))) none).run Tryz.prog Z=.ok (.slice D (n+lf) cd) Z:=fun Z h=>⟨((bcell h).1 R 0 (Nat.lt_succ_self R)).trans c0,((bcell h).1 R 1 (Nat.lt_succ_self R)).trans c1,HS1.out Z⟩
    have hRW:R+1≤W.heap.size:=hlt
    go_upto_region 3 with fail
    go_cut [5,6,7] (fun p q z wx=>∃ a3 q3 X Y,p=.pointer (some ⟨X,0,none⟩)∧q=.pointer (some ⟨Y,0,none⟩)∧z=.int .i64 (k:Nat)∧wx.heap[X]?=some (.cells #[.int .i64 t',.int .i64 v'] 34)∧wx.heap[Y]?=some (.cells #[.int .i64 0,.int .i64 0,.slice a3 es'.length q3] 55)∧w.heap.size≤X∧w.heap.size≤Y∧LogIn wx a3 q3 es'∧Frm w.heap.size a3 es'.length∧Below w.heap.size w wx)
    case first =>
      go_region_held3 (fun Z=>Z.cell? ⟨R,0,none⟩=some (.slice D bs.length cd)∧Z.cell? ⟨R,1,none⟩=some (.int .i64 (n:Nat))∧(Instr.slice 89 (.slice D bs.length cd) none (some (.int .i64 ((n:Int)+(lf:Int)))) none).run Tryz.prog Z=.ok (.slice D (n+lf) cd) Z) ((refine hSk _ ?_;repeat' (first | exact hw3R | exact Below.refl _ _ | refine Below.drew ?_ | refine Below.setCell ?_ ?_ _ | refine Below.alloc ?_ ?_ _ | omega | (simp;omega)))) ((go_at_call 117;refine (HR.out _ (P1.out.below (by first | exact hwm.drew | exact (hwm.alloc hwm.size _).drew | exact ((hwm.alloc hwm.size _).alloc (hwm.alloc hwm.size _).size _).drew))).mono ?_;rintro e w3 ⟨a3,q3,rfl,hl3,hf3,hb3⟩;simp only at hl3 hf3;have hw3:Below W.heap.size W w3:=(by first | exact (zK W).drew.trans hb3 | exact (zC W _).drew.trans (hb3.mono (zC W _).size) | exact (zAE W _ _).drew.trans (hb3.mono (zAE W _ _).size));have g3:=zA hw3 gm;have hW3:=hw3.size;have hw3R:=hw3.mono hRW;obtain ⟨d0,d1,d2,d3,d4,_,_,_,_,_,dlt⟩:=box5 g3;(first | (have gb3:=zA hb3 (zM (zT W (.cells #[.int .i64 0,.int .i64 0] 34) (.cells #[.int .i64 0,.int .i64 0,.slice none 0 0] 55)));have hf4:Frm (W.heap.size+2) a3 es'.length:=(by intro h b o ha;have h5:=hf3 h b o ha;have h6:((W.alloc (.cells #[.int .i64 0,.int .i64 0] 34)).alloc (.cells #[.int .i64 0,.int .i64 0,.slice none 0 0] 55)).heap.size=W.heap.size+2:=(by simp);exact Nat.le_trans (Nat.le_of_eq h6.symm) h5);have gl3:=zA hb3 (zM (zR W (.cells #[.int .i64 0,.int .i64 0] 34) (.cells #[.int .i64 0,.int .i64 0,.slice none 0 0] 55)));obtain ⟨xb0,xb1,xbf0,xbf1,xblt⟩:=box2 gb3;obtain ⟨xl0,xl1,xl2,xlf0,xlf1,xlf2,xllt⟩:=box3 gl3) | (have gl3:=zA hb3 (zM (zT W (.cells #[.int .i64 0,.int .i64 0,.slice none 0 0] 55) (.cells #[.int .i64 0,.int .i64 0] 34)));have hf4:Frm (W.heap.size+2) a3 es'.length:=(by intro h b o ha;have h5:=hf3 h b o ha;have h6:((W.alloc (.cells #[.int .i64 0,.int .i64 0,.slice none 0 0] 55)).alloc (.cells #[.int .i64 0,.int .i64 0] 34)).heap.size=W.heap.size+2:=(by simp);exact Nat.le_trans (Nat.le_of_eq h6.symm) h5);have gb3:=zA hb3 (zM (zR W (.cells #[.int .i64 0,.int .i64 0,.slice none 0 0] 55) (.cells #[.int .i64 0,.int .i64 0] 34)));obtain ⟨xb0,xb1,xbf0,xbf1,xblt⟩:=box2 gb3;obtain ⟨xl0,xl1,xl2,xlf0,xlf1,xlf2,xllt⟩:=box3 gl3) | (have gb3:=zA hb3 (zM (zG W (.cells #[.int .i64 0,.int .i64 0] 34)));have hf4:Frm (W.heap.size+1) a3 es'.length:=(by intro h b o ha;have h5:=hf3 h b o ha;have h6:(W.alloc (.cells #[.int .i64 0,.int .i64 0] 34)).heap.size=W.heap.size+1:=(by simp);exact Nat.le_trans (Nat.le_of_eq h6.symm) h5);obtain ⟨xb0,xb1,xbf0,xbf1,xblt⟩:=box2 gb3) | (have gl3:=zA hb3 (zM (zG W (.cells #[.int .i64 0,.int .i64 0,.slice none 0 0] 55)));have hf4:Frm (W.heap.size+1) a3 es'.length:=(by intro h b o ha;have h5:=hf3 h b o ha;have h6:(W.alloc (.cells #[.int .i64 0,.int .i64 0,.slice none 0 0] 55)).heap.size=W.heap.size+1:=(by simp);exact Nat.le_trans (Nat.le_of_eq h6.symm) h5);obtain ⟨xl0,xl1,xl2,xlf0,xlf1,xlf2,xllt⟩:=box3 gl3) | (have hf4:Frm (W.heap.size+0) a3 es'.length:=hf3))))
      all_goals go_wp2
      all_goals (
        have hww:=hwm.trans (hw3.mono hwm.size)
        have hwz:=hwm.size
        go_meet
        first
          | (refine ⟨a3,q3,w3.heap.size,w3.heap.size+1,(by with_reducible rfl),(by with_reducible rfl),rfl,?_⟩;exact ⟨zT w3 (.cells #[.int .i64 t',.int .i64 v'] 34) (.cells #[.int .i64 0,.int .i64 0,.slice a3 es'.length q3] 55),zR w3 (.cells #[.int .i64 t',.int .i64 v'] 34) (.cells #[.int .i64 0,.int .i64 0,.slice a3 es'.length q3] 55),by omega,by omega,hl3.below (zAE w3 _ _),(fun h b o ha=>Nat.le_trans hwm.size (Nat.le_trans (Nat.le_add_right _ _) (hf4 h b o ha))),hww.trans ((zAE w3 _ _).mono hww.size)⟩)
          | (refine ⟨a3,q3,w3.heap.size+1,w3.heap.size,(by with_reducible rfl),(by with_reducible rfl),rfl,?_⟩;exact ⟨zR w3 (.cells #[.int .i64 0,.int .i64 0,.slice a3 es'.length q3] 55) (.cells #[.int .i64 t',.int .i64 v'] 34),zT w3 (.cells #[.int .i64 0,.int .i64 0,.slice a3 es'.length q3] 55) (.cells #[.int .i64 t',.int .i64 v'] 34),by omega,by omega,hl3.below (zAE w3 _ _),(fun h b o ha=>Nat.le_trans hwm.size (Nat.le_trans (Nat.le_add_right _ _) (hf4 h b o ha))),hww.trans ((zAE w3 _ _).mono hww.size)⟩)
          | (refine ⟨a3,q3,W.heap.size,w3.heap.size,(by with_reducible rfl),(by with_reducible rfl),rfl,?_⟩;exact ⟨zH (zAA gb3 (.int .i64 t') (.int .i64 v')) (.cells #[.int .i64 0,.int .i64 0,.slice a3 es'.length q3] 55),(by have:=zG (set2 w3 W.heap.size (.int .i64 t') (.int .i64 v')) (.cells #[.int .i64 0,.int .i64 0,.slice a3 es'.length q3] 55);simpa using this),by omega,by omega,(hl3.set2Frm hf4 (by omega) (.int .i64 t') (.int .i64 v')).below (zC _ _),(fun h b o ha=>Nat.le_trans hwm.size (Nat.le_trans (Nat.le_add_right _ _) (hf4 h b o ha))),(zP hww hwm.size (.int .i64 t') (.int .i64 v')).alloc (by simp;omega) _⟩)
          | (refine ⟨a3,q3,W.heap.size,W.heap.size+1,(by with_reducible rfl),(by with_reducible rfl),rfl,?_⟩;exact ⟨zBC (zAA gb3 (.int .i64 t') (.int .i64 v')) (by omega) (.int .i64 0) (.int .i64 0) (.slice a3 es'.length q3),zZ (zAM gl3 (by omega) (.int .i64 t') (.int .i64 v')) (.int .i64 0) (.int .i64 0) (.slice a3 es'.length q3),by omega,by omega,(hl3.set2Frm hf4 (by omega) (.int .i64 t') (.int .i64 v')).set3Frm hf4 (by omega) (.int .i64 0) (.int .i64 0) (.slice a3 es'.length q3),(fun h b o ha=>Nat.le_trans hwm.size (Nat.le_trans (Nat.le_add_right _ _) (hf4 h b o ha))),zO (zP hww hwm.size (.int .i64 t') (.int .i64 v')) (by omega) (.int .i64 0) (.int .i64 0) (.slice a3 es'.length q3)⟩)
          | (refine ⟨a3,q3,w3.heap.size,W.heap.size,(by with_reducible rfl),(by with_reducible rfl),rfl,?_⟩;exact ⟨(by have:=zG (set3 w3 W.heap.size (.int .i64 0) (.int .i64 0) (.slice a3 es'.length q3)) (.cells #[.int .i64 t',.int .i64 v'] 34);simpa using this),zH (zZ gl3 (.int .i64 0) (.int .i64 0) (.slice a3 es'.length q3)) (.cells #[.int .i64 t',.int .i64 v'] 34),by omega,by omega,(hl3.set3Frm hf4 (by omega) (.int .i64 0) (.int .i64 0) (.slice a3 es'.length q3)).below (zC _ _),(fun h b o ha=>Nat.le_trans hwm.size (Nat.le_trans (Nat.le_add_right _ _) (hf4 h b o ha))),(zO hww hwm.size (.int .i64 0) (.int .i64 0) (.slice a3 es'.length q3)).alloc (by simp;omega) _⟩)
          | (refine ⟨a3,q3,W.heap.size+1,W.heap.size,(by with_reducible rfl),(by with_reducible rfl),rfl,?_⟩;exact ⟨zBC (zAA gb3 (.int .i64 t') (.int .i64 v')) (by omega) (.int .i64 0) (.int .i64 0) (.slice a3 es'.length q3),zZ (zAM gl3 (by omega) (.int .i64 t') (.int .i64 v')) (.int .i64 0) (.int .i64 0) (.slice a3 es'.length q3),by omega,by omega,(hl3.set2Frm hf4 (by omega) (.int .i64 t') (.int .i64 v')).set3Frm hf4 (by omega) (.int .i64 0) (.int .i64 0) (.slice a3 es'.length q3),(fun h b o ha=>Nat.le_trans hwm.size (Nat.le_trans (Nat.le_add_right _ _) (hf4 h b o ha))),zO (zP hww (by omega) (.int .i64 t') (.int .i64 v')) hwm.size (.int .i64 0) (.int .i64 0) (.slice a3 es'.length q3)⟩)
          | (refine ⟨a3,q3,w3.heap.size,w3.heap.size+1,(by with_reducible rfl),(by with_reducible rfl),rfl,?_⟩;exact ⟨zT w3 _ _,zR w3 _ _,by omega,by omega,hl3.below (zAE w3 _ _),(fun h b o ha=>Nat.le_trans hwm.size (Nat.le_trans (Nat.le_add_right _ _) (hf4 h b o ha))),hww.trans ((zAE w3 _ _).mono hww.size)⟩))
    case rest =>
      obtain ⟨a3,q3,X,Y,rfl,rfl,rfl,gX,gY,hXw,hYw,hL3,hF3,hww⟩:=hcut
      obtain ⟨W4,hW4⟩:∃ Z,Z=wc:=⟨_,rfl⟩
      subst hW4
      clear c0 c1 c2 c3 c4 f0 f1 f2 f3 f4 hlt gm hwm hSk hRW hw1 hs1
      have gR:=zA hww g
      obtain ⟨c0,c1,c2,c3,c4,f0,f1,f2,f3,f4,hlt⟩:=box5 gR
      have hs2:=HS2.out
      have hrow:CellsB W4 D (bs.take k):=(P1.out.below hww).take k
      have hdk:D=none → k=0:=fun h=>by have:=P2.out h;omega
      have hkl0:((bs.take k).map zX).length=k * 1:=by rw [List.length_map,HKL.out,Nat.mul_one]
      have HK0:=Lib.hid hkl0
      clear hkl0
      go_wp2_with (at_builtin;refine zF rfl (.const (.slice none 0 0)) (.tmp 45) rfl elemB W4.heap.size (.slice none 0 0) 0 [] (by rfl) (World.ownsRow_nil _ _ _ _) D k cd ((bs.take k).map zX) (by rfl) HK0.out hrow (zAS _) (by unfold maxLen;omega) (by omega) (Nat.le_refl _) hdk ?_;intro a9 c9 w9 hown9 hg9 hat9;simp only [Nat.zero_add,List.nil_append] at hown9;rw [Nat.zero_add];have hb9:Below W4.heap.size W4 w9:=(zK W4).grown hg9 (Nat.le_refl _) (fun k hk=>by simp [Value.ownBlock] at hk);have gR9:=zA hb9 gR;have gX9:=zA hb9 gX;have gY9:=zA hb9 gY;obtain ⟨d0,d1,d2,d3,d4,e0,e1,e2,e3,e4,dlt⟩:=box5 gR9;obtain ⟨x0,x1,_,_,xlt⟩:=box2 gX9;obtain ⟨y0,y1,y2,_,_,_,ylt⟩:=box3 gY9;have hXR:X≠R:=(by omega);have hYR:Y≠R:=(by omega))
      have hw9:=hww.trans (hb9.mono hww.size)
      have hO:Only R w (((((w9.setCell ⟨R,0,none⟩ (.slice a9 k c9)).setCell ⟨R,1,none⟩ (.int .i64 (k:Nat))).setCell ⟨R,2,none⟩ (.int .i64 t')).setCell ⟨R,3,none⟩ (.int .i64 v')).setCell ⟨R,4,none⟩ (.slice a3 es'.length q3)):=(((((Only.of_below hw9).setCell 0 _).setCell 1 _).setCell 2 _).setCell 3 _).setCell 4 _
      have hRb:R<W4.heap.size:=zB gR
      have hown:=ownsRow_setCell_below (ownsRow_setCell_below (ownsRow_setCell_below (ownsRow_setCell_below (ownsRow_setCell_below hown9 (a:=⟨R,0,none⟩) hRb (.slice a9 k c9)) (a:=⟨R,1,none⟩) hRb (.int .i64 (k:Nat))) (a:=⟨R,2,none⟩) hRb (.int .i64 t')) (a:=⟨R,3,none⟩) hRb (.int .i64 v')) (a:=⟨R,4,none⟩) hRb (.slice a3 es'.length q3)
      have hO9:Only R w9 (((((w9.setCell ⟨R,0,none⟩ (.slice a9 k c9)).setCell ⟨R,1,none⟩ (.int .i64 (k:Nat))).setCell ⟨R,2,none⟩ (.int .i64 t')).setCell ⟨R,3,none⟩ (.int .i64 v')).setCell ⟨R,4,none⟩ (.slice a3 es'.length q3)):=(((((Only.refl R w9).setCell 0 _).setCell 1 _).setCell 2 _).setCell 3 _).setCell 4 _
      have ho3:Out P a3 es'.length:=fun h b o ha=>hP0 _ (hF3 h b o ha)
      refine bodyPost_end (results_none rfl _ _ _) rfl ?_
      refine ⟨rfl,⟨a9,c9,a3,q3,?_,RowAt.of_own hown,?_,?_,?_,(hL3.below hb9).out hO9 ho3 hnR,ho3⟩,hO⟩
      · simp only [HKL.out]
        exact zQ (i:=4) (zQ (i:=3) (zQ (i:=2) (zQ (i:=1) (zQ (i:=0) gR9 (.slice a9 k c9)) (.int .i64 (k:Nat))) (.int .i64 t')) (.int .i64 v')) (.slice a3 es'.length q3)
      · simp only [HKL.out]
        exact zBL hown
      · simp only [HKL.out]
        exact own_le' hown
      · simp only [HKL.out]
        intro h0 b o hb
        have h5:=own_from hown h0 b o hb
        have h6:=hww.size
        exact hP0 _ (by omega)
end Go.Proofs.YtnljdkglncmfaaaGreat
