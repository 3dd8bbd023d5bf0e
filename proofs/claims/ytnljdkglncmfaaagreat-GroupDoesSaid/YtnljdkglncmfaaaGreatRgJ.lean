/-
  Part RgJ of the proof.
-/
import Derived.Test.YtnljdkglncmfaaaGreatRc
namespace Go.Proofs.YtnljdkglncmfaaaGreat
open Go.RowKit
set_option linter.unusedVariables false
theorem RetRR.oneB {w w1 w':World} {b B:Nat} {a a':RA} {m m':Mb} (x:Ms) {A:Option Addr} {c z:Nat} (h:RMAt w1 b a' m') (hs:RStep w b a m w1 a' m') (hB:w.heap.size≤B) (hF:∀ x ∈ rfoot b a',x<B) (he:w1.ownsRow B 42 7 (.slice A x.ents.length c) x.ents.length (ensV x.ents)) (hB1:B≤w1.heap.size) (hz:z=w1.heap.size)
    (hw:w'=w1.alloc (.cells #[.int .i64 x.kind,.int .i64 x.frm,.int .i64 x.dst,.int .i64 x.term,.int .i64 x.index,.int .i64 x.lterm,.int .i64 x.commit,.bool x.yes,.slice A x.ents.length c] 78)):RetRR m' [x] b a m w (.returned (.slice (some ⟨z,0,none⟩) 1 1)) w':=by
  subst hz
  subst hw
  exact ⟨a',B,_,1,_,rfl,h.below (zC _ _),hs.below (zC _ _),hB,hF,MsAt.one x A c hB1 he⟩
section
variable {w:World} {b:Nat} {a:RA} {m:Mb}
set_option maxRecDepth 100000 in
set_option maxHeartbeats 6400000 in
theorem radded_any (h : RMAt w b a m) (hok : MbOk m) (x : Ms) (hx1 : 1 ≤ x.frm) (hx2 : x.frm ≤ m.prog.length) (hi : -1 ≤ x.index ∧ x.index ≤ 64) (am : Option Addr) (cm : Nat) :
    Calls Tryz.prog 88 #[.pointer (some ⟨b,0,none⟩),x.val am cm] w (RetRR (m.added x).1 (m.added x).2 b a m w):=by
  obtain ⟨xk,xf,xd,xt,xi,xl,xc,xy,xe⟩:=x
  simp only at hx1 hx2 hi
  obtain ⟨q,rfl⟩:∃ q:Nat,xf=(q:Int)+1:=⟨(xf - 1).toNat,by omega⟩
  show Calls _ _ #[.pointer (some ⟨b,0,none⟩),.agg #[.int .i64 xk,.int .i64 ((q:Int)+1),.int .i64 xd,.int .i64 xt,.int .i64 xi,.int .i64 xl,.int .i64 xc,.bool xy,.slice am xe.length cm]] _ _
  have hal:=zC w (.cells #[.int .i64 xk,.int .i64 ((q:Int)+1),.int .i64 xd,.int .i64 xt,.int .i64 xi,.int .i64 xl,.int .i64 xc,.bool xy,.slice am xe.length cm] 78)
  have g0:=zG w (.cells #[.int .i64 xk,.int .i64 ((q:Int)+1),.int .i64 xd,.int .i64 xt,.int .i64 xi,.int .i64 xl,.int .i64 xc,.bool xy,.slice am xe.length cm] 78)
  have n16:=hok.n16
  have hdn:q<m.prog.length:=by omega
  have hqn:(q:Int)<m.prog.length:=by omega
  have hq0:(0:Int)≤(q:Int):=by omega
  have hwi:=zS (x:=(q:Int)) (by omega) (by omega)
  have HLF:=Lib.hid hok.lastF
  have hpr:m.prAt ((q:Int)+1)=m.prog[q]'hdn:=by unfold Mb.prAt;rw [show ((q:Int)+1 - 1).toNat=q by omega,List.getD_eq_getElem?_getD,List.getElem?_eq_getElem hdn];rfl
  have hpb:=hok.prAt ((q:Int)+1)
  have h64:=hok.len64
  have hbq:=h.apart
  obtain ⟨nx1,nx2,nx3,nx4⟩:w.heap.size≠b∧w.heap.size≠a.va∧w.heap.size≠a.ma∧w.heap.size≠a.na:=by
    have hn:=h.new (Nat.le_refl w.heap.size)
    simp only [rfoot,List.mem_cons,List.not_mem_nil,or_false] at hn
    exact ⟨fun e=>hn (.inl e),fun e=>hn (.inr (.inl e)),fun e=>hn (.inr (.inr (.inl e))),fun e=>hn (.inr (.inr (.inr e)))⟩
  have H1:=h.below hal
  have S1:RStep w b a m (w.alloc (.cells #[.int .i64 xk,.int .i64 ((q:Int)+1),.int .i64 xd,.int .i64 xt,.int .i64 xi,.int .i64 xl,.int .i64 xc,.bool xy,.slice am xe.length cm] 78)) a m:=.of_below hal
  have HRES:Hid (m.added ⟨xk,(q:Int)+1,xd,xt,xi,xl,xc,xy,xe⟩=if m.role≠2∨xt≠m.term then (m,[]) else
    if xy=false then (m.back ⟨xk,(q:Int)+1,xd,xt,xi,xl,xc,xy,xe⟩,[(m.back ⟨xk,(q:Int)+1,xd,xt,xi,xl,xc,xy,xe⟩).addn ((q:Int)+1)]) else
      if xi<0∨(lastF 0 0 m.log).1<xi then (m,[]) else
        if (lastF 0 0 m.log).1<max (m.prAt ((q:Int)+1)).1 xi+1 then (m.matched ⟨xk,(q:Int)+1,xd,xt,xi,xl,xc,xy,xe⟩,[]) else (m.matched ⟨xk,(q:Int)+1,xd,xt,xi,xl,xc,xy,xe⟩,[(m.matched ⟨xk,(q:Int)+1,xd,xt,xi,xl,xc,xy,xe⟩).addn ((q:Int)+1)])):=rfl
  rw [HLF.out] at HRES
  simp only at HRES
  have HLA:Hid (∀ W,RMAt W b a m → Calls Tryz.prog 75 #[logV 0 0 a.la m.log.length a.lc] W fun e w'=>e=.returned (.tuple #[.int .i64 (m.log.length:Int),.int .i64 (endT m.log 0)])∧Below W.heap.size W w'):=fun W hW=>by
    have:=zBX 0 0 a.la a.lc m.log W hW.log
    rwa [HLF.out] at this
  have HH:=Lib.hid h
  clear h
  have HB1:=Lib.hid H1
  obtain ⟨x0,x1,x2,x3,x4,x5,x6,x7,x8⟩:=box9 g0
  have flt:=zB g0
  obtain ⟨c0,c1,c2,c3,c4,c5,c6,c7,c8,c9,c10,c11,hlt⟩:=zBA H1.blk
  by_cases hno:m.role≠2∨xt≠m.term
  · have HR2:=Lib.hid (HRES.out.trans (if_pos hno))
    have hcase:(m.role != 2)=true∨((m.role != 2)=false∧(xt != m.term)=true):=by
      by_cases h1:m.role=2
      · right
        exact ⟨by simp [h1],by rcases hno with h2 | h2;exact (h2 h1).elim;simpa using h2⟩
      · left;simpa using h1
    clear hno
    rcases hcase with h1 | ⟨h1,h2⟩
    all_goals (
      go_enter Tryz.func88,Tryz.ntmps88
      go_wp2
      go_quiet (fail)
      go_wp2
      go_ret
      rw [HR2.out]
      exact RetRR.nil (H1.many _) (S1.below (Below.many (zK _) _)))
  have h1:(m.role != 2)=false:=by
    by_cases h:m.role=2
    · simp [h]
    · exact (hno (.inl h)).elim
  have h2:(xt != m.term)=false:=by
    by_cases h:xt=m.term
    · simp [h]
    · exact (hno (.inr h)).elim
  have HR1:=Lib.hid (HRES.out.trans (if_neg hno))
  clear hno HRES
  go_enter Tryz.func88,Tryz.ntmps88
  go_wp2
  go_quiet (fail)
  go_upto_region 4 with (go_at_call 75;refine (HLA.out _ (by first | exact HB1.out | exact HB1.out.many _)).mono ?_;rintro e w2 ⟨rfl,hb2⟩)
  have hb12:Below (w.alloc (.cells #[.int .i64 xk,.int .i64 ((q:Int)+1),.int .i64 xd,.int .i64 xt,.int .i64 xi,.int .i64 xl,.int .i64 xc,.bool xy,.slice am xe.length cm] 78)).heap.size (w.alloc (.cells #[.int .i64 xk,.int .i64 ((q:Int)+1),.int .i64 xd,.int .i64 xt,.int .i64 xi,.int .i64 xl,.int .i64 xc,.bool xy,.slice am xe.length cm] 78)) w2:=by first | exact hb2 | exact (Below.many (zK _) nq).trans hb2
  have H2:=H1.below hb12
  have S2:=S1.below hb12
  have G2:=zA hb12 g0
  have hz2:w.heap.size<w2.heap.size:=zB G2
  clear c0 c1 c2 c3 c4 c5 c6 c7 c8 c9 c10 c11 hlt x0 x1 x2 x3 x4 x5 x6 x7 x8 flt H1 S1 g0 hb12 hb2 HB1 HLA
  obtain ⟨x0,x1,x2,x3,x4,x5,x6,x7,x8⟩:=box9 G2
  have flt:=zB G2
  obtain ⟨c0,c1,c2,c3,c4,c5,c6,c7,c8,c9,c10,c11,hlt⟩:=zBA H2.blk
  obtain ⟨fr0,fr1,fr2,fr3,fr4,fr5,fr6,fr7,fr8,fr9,fr10,fr11⟩:=fro12 H2.blk
  have m1:=zN H2.mat q
  have m2:=zB H2.mat
  have m3:w2.cell? ⟨a.ma,q,none⟩=some (.int .i64 (m.prAt ((q:Int)+1)).1):=(zE H2.mat q).trans (by rw [hpr];simp [matV,hdn])
  have k1:=zN H2.nxt q
  have k2:=zB H2.nxt
  have k3:w2.cell? ⟨a.na,q,none⟩=some (.int .i64 (m.prAt ((q:Int)+1)).2):=(zE H2.nxt q).trans (by rw [hpr];simp [nxtV,hdn])
  have hst:∀ p:Int × Int,m.setPr ((q:Int)+1) p={ m with prog:=m.prog.set q p }:=fun p=>by unfold Mb.setPr;rw [show ((q:Int)+1 - 1).toNat=q by omega]
  have HST:=Lib.hid hst
  clear hst
  have HBK:Hid (m.back ⟨xk,(q:Int)+1,xd,xt,xi,xl,xc,xy,xe⟩=m.setPr ((q:Int)+1) ((m.prAt ((q:Int)+1)).1,max 1 (min ((m.prAt ((q:Int)+1)).2 - 2) xi+1))):=rfl
  have HMT:Hid (m.matched ⟨xk,(q:Int)+1,xd,xt,xi,xl,xc,xy,xe⟩=(m.setPr ((q:Int)+1) (max (m.prAt ((q:Int)+1)).1 xi,max (m.prAt ((q:Int)+1)).1 xi+1)).settle):=rfl
  have HPQ:Hid ((m.prog[q]'hdn)=m.prAt ((q:Int)+1)):=hpr.symm
  clear hpr
  generalize m.prAt ((q:Int)+1)=P at *
  obtain ⟨P1,P2⟩:=P
  simp only at m3 k3 HR1 HBK HMT hpb
  have hP1:(m.prog[q]'hdn).1=P1:=by rw [HPQ.out]
  have hP2:(m.prog[q]'hdn).2=P2:=by rw [HPQ.out]
  have HP1:=Lib.hid hP1
  have HP2:=Lib.hid hP2
  clear hP1 hP2
  obtain ⟨a1,a2,a3,a4,a5,a6⟩:=H2.apart
  cases xy with
  | false =>
    have HR2:=Lib.hid (HR1.out.trans (if_pos rfl))
    have hwa:=zS (x:=P2 - 1) (by omega) (by omega)
    have hwb:=zS (x:=P2 - 1 - 1) (by omega) (by omega)
    have hwc:=zS (x:=xi+1) (by omega) (by omega)
    by_cases g1:xi<P2 - 1 - 1
    · by_cases g2:xi+1<1
      · have HV:Hid (max 1 (min (P2 - 2) xi+1)=1):=by rw [Hid];omega
        have HBK2:Hid (m.back ⟨xk,(q:Int)+1,xd,xt,xi,xl,xc,false,xe⟩={ m with prog:=m.prog.set q (P1,1) }):=by rw [Hid,HBK.out,HST.out,HV.out]
        have MB:RMAt (w2.setCell ⟨a.na,q,none⟩ (.int .i64 (1))) b a (m.back ⟨xk,(q:Int)+1,xd,xt,xi,xl,xc,false,xe⟩):=by
          have:=H2.setN hdn (1)
          rw [HBK2.out]
          rwa [HP1.out] at this
        have SB:RStep w b a m (w2.setCell ⟨a.na,q,none⟩ (.int .i64 (1))) a (m.back ⟨xk,(q:Int)+1,xd,xt,xi,xl,xc,false,xe⟩):=S2.set (by simp [rfoot]) q _ rfl
        have HAD:=Lib.hid (raddn_at MB (hok.back ⟨xk,(q:Int)+1,xd,xt,xi,xl,xc,false,xe⟩) q (by rw [HBK2.out];simpa using hdn))
        clear HV
        go_wp2_with (go_at_call 113;refine HAD.out.mono ?_;rintro e w4 ⟨A4,c4',rfl,own4,hb4⟩)
        go_ret
        rw [HR2.out]
        exact RetRR.oneB (w1:=w4) ((m.back ⟨xk,(q:Int)+1,xd,xt,xi,xl,xc,false,xe⟩).addn ((q:Int)+1)) (MB.below hb4) (SB.below hb4) SB.chg.size MB.lt own4 hb4.size rfl rfl
      · have HV:Hid (max 1 (min (P2 - 2) xi+1)=xi+1):=by rw [Hid];omega
        have HBK2:Hid (m.back ⟨xk,(q:Int)+1,xd,xt,xi,xl,xc,false,xe⟩={ m with prog:=m.prog.set q (P1,xi+1) }):=by rw [Hid,HBK.out,HST.out,HV.out]
        have MB:RMAt (w2.setCell ⟨a.na,q,none⟩ (.int .i64 (xi+1))) b a (m.back ⟨xk,(q:Int)+1,xd,xt,xi,xl,xc,false,xe⟩):=by
          have:=H2.setN hdn (xi+1)
          rw [HBK2.out]
          rwa [HP1.out] at this
        have SB:RStep w b a m (w2.setCell ⟨a.na,q,none⟩ (.int .i64 (xi+1))) a (m.back ⟨xk,(q:Int)+1,xd,xt,xi,xl,xc,false,xe⟩):=S2.set (by simp [rfoot]) q _ rfl
        have HAD:=Lib.hid (raddn_at MB (hok.back ⟨xk,(q:Int)+1,xd,xt,xi,xl,xc,false,xe⟩) q (by rw [HBK2.out];simpa using hdn))
        clear HV
        go_wp2_with (go_at_call 113;refine HAD.out.mono ?_;rintro e w4 ⟨A4,c4',rfl,own4,hb4⟩)
        go_ret
        rw [HR2.out]
        exact RetRR.oneB (w1:=w4) ((m.back ⟨xk,(q:Int)+1,xd,xt,xi,xl,xc,false,xe⟩).addn ((q:Int)+1)) (MB.below hb4) (SB.below hb4) SB.chg.size MB.lt own4 hb4.size rfl rfl
    · by_cases g2:P2 - 1<1
      · have HV:Hid (max 1 (min (P2 - 2) xi+1)=1):=by rw [Hid];omega
        have HBK2:Hid (m.back ⟨xk,(q:Int)+1,xd,xt,xi,xl,xc,false,xe⟩={ m with prog:=m.prog.set q (P1,1) }):=by rw [Hid,HBK.out,HST.out,HV.out]
        have MB:RMAt (w2.setCell ⟨a.na,q,none⟩ (.int .i64 (1))) b a (m.back ⟨xk,(q:Int)+1,xd,xt,xi,xl,xc,false,xe⟩):=by
          have:=H2.setN hdn (1)
          rw [HBK2.out]
          rwa [HP1.out] at this
        have SB:RStep w b a m (w2.setCell ⟨a.na,q,none⟩ (.int .i64 (1))) a (m.back ⟨xk,(q:Int)+1,xd,xt,xi,xl,xc,false,xe⟩):=S2.set (by simp [rfoot]) q _ rfl
        have HAD:=Lib.hid (raddn_at MB (hok.back ⟨xk,(q:Int)+1,xd,xt,xi,xl,xc,false,xe⟩) q (by rw [HBK2.out];simpa using hdn))
        clear HV
        go_wp2_with (go_at_call 113;refine HAD.out.mono ?_;rintro e w4 ⟨A4,c4',rfl,own4,hb4⟩)
        go_ret
        rw [HR2.out]
        exact RetRR.oneB (w1:=w4) ((m.back ⟨xk,(q:Int)+1,xd,xt,xi,xl,xc,false,xe⟩).addn ((q:Int)+1)) (MB.below hb4) (SB.below hb4) SB.chg.size MB.lt own4 hb4.size rfl rfl
      · have HV:Hid (max 1 (min (P2 - 2) xi+1)=P2 - 1):=by rw [Hid];omega
        have HBK2:Hid (m.back ⟨xk,(q:Int)+1,xd,xt,xi,xl,xc,false,xe⟩={ m with prog:=m.prog.set q (P1,P2 - 1) }):=by rw [Hid,HBK.out,HST.out,HV.out]
        have MB:RMAt (w2.setCell ⟨a.na,q,none⟩ (.int .i64 (P2 - 1))) b a (m.back ⟨xk,(q:Int)+1,xd,xt,xi,xl,xc,false,xe⟩):=by
          have:=H2.setN hdn (P2 - 1)
          rw [HBK2.out]
          rwa [HP1.out] at this
        have SB:RStep w b a m (w2.setCell ⟨a.na,q,none⟩ (.int .i64 (P2 - 1))) a (m.back ⟨xk,(q:Int)+1,xd,xt,xi,xl,xc,false,xe⟩):=S2.set (by simp [rfoot]) q _ rfl
        have HAD:=Lib.hid (raddn_at MB (hok.back ⟨xk,(q:Int)+1,xd,xt,xi,xl,xc,false,xe⟩) q (by rw [HBK2.out];simpa using hdn))
        clear HV
        go_wp2_with (go_at_call 113;refine HAD.out.mono ?_;rintro e w4 ⟨A4,c4',rfl,own4,hb4⟩)
        go_ret
        rw [HR2.out]
        exact RetRR.oneB (w1:=w4) ((m.back ⟨xk,(q:Int)+1,xd,xt,xi,xl,xc,false,xe⟩).addn ((q:Int)+1)) (MB.below hb4) (SB.below hb4) SB.chg.size MB.lt own4 hb4.size rfl rfl
  | true =>
    have HR2:=Lib.hid (HR1.out.trans (if_neg (by simp)))
    by_cases ho:xi<0∨(m.log.length:Int)<xi
    · have HR3:=Lib.hid (HR2.out.trans (if_pos ho))
      by_cases ho1:xi<0
      · clear ho
        go_wp2
        go_ret
        rw [HR3.out]
        exact RetRR.nil H2 S2
      · have ho2:(m.log.length:Int)<xi:=by omega
        clear ho
        go_wp2
        go_ret
        rw [HR3.out]
        exact RetRR.nil H2 S2
    · have HR3:=Lib.hid (HR2.out.trans (if_neg ho))
      have ho1:0≤xi:=by omega
      have ho2:xi≤(m.log.length:Int):=by omega
      clear ho HR1 HR2
      have hwd:=zS (x:=xi+1) (by omega) (by omega)
      have hwe:=zS (x:=P1+1) (by omega) (by omega)
      go_upto_region 8 with fail
      go_cut [55] (fun c wx=>c=.bool (decide (P1<xi))∧∃ n,wx=w2.drewN n)
      case first =>
        by_cases g:P1<xi
        · go_quiet (fail)
          go_wp2
          go_meet
          exact ⟨by rw [decide_eq_true g],_,rfl⟩
        · have g':xi≤P1:=by omega
          go_quiet (fail)
          go_wp2
          go_meet
          exact ⟨by rw [decide_eq_false (by omega)],_,rfl⟩
      case rest =>
        obtain ⟨rfl,nn,rfl⟩:=hcut
        replace H2:=H2.many nn
        replace S2:=S2.below (Below.many (zK _) nn)
        replace G2:=zI G2 nn
        clear c0 c1 c2 c3 c4 c5 c6 c7 c8 c9 c10 c11 hlt x0 x1 x2 x3 x4 x5 x6 x7 x8 flt m1 m2 m3 k1 k2 k3 fr0 fr1 fr2 fr3 fr4 fr5 fr6 fr7 fr8 fr9 fr10 fr11
        generalize w2.drewN nn=w2 at *
        obtain ⟨x0,x1,x2,x3,x4,x5,x6,x7,x8⟩:=box9 G2
        have flt:=zB G2
        obtain ⟨c0,c1,c2,c3,c4,c5,c6,c7,c8,c9,c10,c11,hlt⟩:=zBA H2.blk
        obtain ⟨fr0,fr1,fr2,fr3,fr4,fr5,fr6,fr7,fr8,fr9,fr10,fr11⟩:=fro12 H2.blk
        have m1:=zN H2.mat q
        have m2:=zB H2.mat
        have m3:w2.cell? ⟨a.ma,q,none⟩=some (.int .i64 P1):=(zE H2.mat q).trans (by have:=HP1.out;simp [matV,hdn,this])
        have k1:=zN H2.nxt q
        have k2:=zB H2.nxt
        have k3:w2.cell? ⟨a.na,q,none⟩=some (.int .i64 P2):=(zE H2.nxt q).trans (by have:=HP2.out;simp [nxtV,hdn,this])
        have hMM:m.prog[q]?=some (P1,P2):=by rw [List.getElem?_eq_getElem hdn,HPQ.out]
        have HMM:=Lib.hid hMM
        clear hMM
        go_upto_if 55 with fail
        go_cut [] (fun wx=>RMAt wx b a { m with prog:=m.prog.set q (max P1 xi,P2) }∧RStep w b a m wx a { m with prog:=m.prog.set q (max P1 xi,P2) }∧wx.heap[w.heap.size]?=some (.cells #[.int .i64 xk,.int .i64 ((q:Int)+1),.int .i64 xd,.int .i64 xt,.int .i64 xi,.int .i64 xl,.int .i64 xc,.bool true,.slice am xe.length cm] 78))
        case first =>
          by_cases g:P1<xi
          · have HV:Hid (max P1 xi=xi):=by rw [Hid];omega
            rw [decide_eq_true g]
            have H3:=H2.setM hdn xi
            rw [HP2.out] at H3
            go_wp2
            go_still_tail 8,(by kernel_rfl)
            show wpList _ _ _ _ _ w2.drew
            go_wp2
            go_meet
            rw [HV.out]
            exact ⟨H3.drew,(S2.set (m2:={ m with prog:=m.prog.set q (xi,P2) }) (c:=a.ma) (by simp [rfoot]) q _ rfl).below (Below.refl _ _).drew,zM (zL G2 nx3 _)⟩
          · have hV:max P1 xi=P1:=by omega
            rw [decide_eq_false g]
            have hs2:{ m with prog:=m.prog.set q (max P1 xi,P2) }=m:=by rw [hV,set_same HMM.out]
            go_wp2
            go_meet
            rw [hs2]
            exact ⟨H2,S2,G2⟩
        case rest =>
          obtain ⟨H3,S3,G3⟩:=hcut
          clear c0 c1 c2 c3 c4 c5 c6 c7 c8 c9 c10 c11 hlt x0 x1 x2 x3 x4 x5 x6 x7 x8 flt m1 m2 m3 k1 k2 k3 fr0 fr1 fr2 fr3 fr4 fr5 fr6 fr7 fr8 fr9 fr10 fr11
          have hV0:0≤max P1 xi:=by omega
          have hV1:max P1 xi≤64:=by omega
          have H4a:=H3.setN (k:=q) (by simpa using hdn) (max P1 xi+1)
          simp only [List.getElem_set_self,List.set_set] at H4a
          have hpl:(m.prog.set q (max P1 xi,P2)).length=m.prog.length:=List.length_set ..
          have hm3:(matV { m with prog:=m.prog.set q (max P1 xi,P2) }).toArray[q]?=some (.int .i64 (max P1 xi)):=by simp [matV,hdn]
          have hk3:(nxtV { m with prog:=m.prog.set q (max P1 xi,P2) }).toArray[q]?=some (.int .i64 P2):=by simp [nxtV,hdn]
          have HSP:Hid (m.setPr ((q:Int)+1) (max P1 xi,max P1 xi+1)={ m with prog:=m.prog.set q (max P1 xi,max P1 xi+1) }):=by rw [Hid,HST.out]
          have HMA:Hid (m.matched ⟨xk,(q:Int)+1,xd,xt,xi,xl,xc,true,xe⟩=({ m with prog:=m.prog.set q (max P1 xi,max P1 xi+1) }:Mb).settle):=by rw [Hid,HMT.out,HSP.out]
          have okb:MbOk { m with prog:=m.prog.set q (max P1 xi,max P1 xi+1) }:=by
            have:=hok.setPr ((q:Int)+1) (max P1 xi,max P1 xi+1) (by simp only;omega)
            rwa [HSP.out] at this
          have HR4:=HR3.out
          rw [HMA.out] at HR4
          have HR5:=Lib.hid HR4
          have S4a:RStep w b a m (wc.setCell ⟨a.na,q,none⟩ (.int .i64 (max P1 xi+1))) a { m with prog:=m.prog.set q (max P1 xi,max P1 xi+1) }:=S3.set (by simp [rfoot]) q _ rfl
          clear HR4
          generalize max P1 xi=V at *
          obtain ⟨x0,x1,x2,x3,x4,x5,x6,x7,x8⟩:=box9 G3
          have flt:=zB G3
          have hblk:=H3.blk
          simp only [rmC,hpl] at hblk
          obtain ⟨c0,c1,c2,c3,c4,c5,c6,c7,c8,c9,c10,c11,hlt⟩:=zBA hblk
          clear hblk
          have m1:=zN H3.mat q
          have m2:=zB H3.mat
          have m3:=(zE H3.mat q).trans hm3
          have k1:=zN H3.nxt q
          have k2:=zB H3.nxt
          have k3:=(zE H3.nxt q).trans hk3
          have hwV:=zS (x:=V+1) (by omega) (by omega)
          clear hm3 hk3
          go_upto_region 10 with fail
          go_still_tail 14,(by kernel_rfl)
          show wpList _ _ _ _ _ wc.drew
          go_upto_region 11 with fail
          clear c0 c1 c2 c3 c4 c5 c6 c7 c8 c9 c10 c11 hlt x0 x1 x2 x3 x4 x5 x6 x7 x8 flt m1 m2 m3 k1 k2 k3
          have MB:=H4a.drew
          have SB:=S4a.below (Below.refl _ _).drew
          have GB:=zM (zL G3 nx4 (i:=q) (.int .i64 (V+1)))
          generalize (wc.setCell ⟨a.na,q,none⟩ (.int .i64 (V+1))).drew=w4 at *
          have HSE:=Lib.hid (rsettle_any MB okb)
          have hpl2:(m.prog.set q (V,V+1)).length=m.prog.length:=List.length_set ..
          by_cases g9:(m.log.length:Int)<V+1
          · have HR6:=Lib.hid (HR5.out.trans (if_pos g9))
            go_wp2_with (first
              | (go_at_call 111;refine HSE.out.mono ?_;rintro e w5 ⟨rfl,H5,S5⟩;have hblk:=H5.blk;simp only [rmC,Mb.settle,hpl2] at hblk;obtain ⟨d0,d1,d2,d3,d4,d5,d6,d7,d8,d9,d10,d11,dlt⟩:=zBA hblk;have n2:=zB H5.nxt;have n3:=(zE H5.nxt q).trans (show (nxtV ({ m with prog:=m.prog.set q (V,V+1) }:Mb).settle).toArray[q]?=some (.int .i64 (V+1)) by simp [nxtV,Mb.settle,hdn])))
            go_ret
            rw [HR6.out]
            exact RetRR.nil H5 (SB.trans S5)
          · have HR6:=Lib.hid (HR5.out.trans (if_neg g9))
            have hnw4:w.heap.size ∉ rfoot b a:=by
              simp only [rfoot,List.mem_cons,List.not_mem_nil,or_false]
              intro hc
              rcases hc with e | e | e | e
              · exact nx1 e
              · exact nx2 e
              · exact nx3 e
              · exact nx4 e
            go_wp2_with (first
              | (go_at_call 111;refine HSE.out.mono ?_;rintro e w5 ⟨rfl,H5,S5⟩;have hblk:=H5.blk;simp only [rmC,Mb.settle,hpl2] at hblk;obtain ⟨d0,d1,d2,d3,d4,d5,d6,d7,d8,d9,d10,d11,dlt⟩:=zBA hblk;have n2:=zB H5.nxt;have n3:=(zE H5.nxt q).trans (show (nxtV ({ m with prog:=m.prog.set q (V,V+1) }:Mb).settle).toArray[q]?=some (.int .i64 (V+1)) by simp [nxtV,Mb.settle,hdn]);have GX:=S5.keep GB hnw4;obtain ⟨x0,x1,x2,x3,x4,x5,x6,x7,x8⟩:=box9 GX;have flt:=zB GX;have HAD:=Lib.hid (raddn_at H5 okb.settle q (by simpa [Mb.settle] using hdn)))
              | (go_at_call 113;refine HAD.out.mono ?_;rintro e w6 ⟨A6,c6',rfl,own6,hb6⟩))
            go_ret
            rw [HR6.out]
            exact RetRR.oneB (w1:=w6) (({ m with prog:=m.prog.set q (V,V+1) }:Mb).settle.addn ((q:Int)+1)) (H5.below hb6) ((SB.trans S5).below hb6) (SB.trans S5).chg.size H5.lt own6 hb6.size rfl rfl
end
end Go.Proofs.YtnljdkglncmfaaaGreat
