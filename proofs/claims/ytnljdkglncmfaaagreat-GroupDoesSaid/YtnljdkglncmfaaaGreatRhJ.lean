/-
  Part RhJ of the proof.
-/
import Derived.Test.YtnljdkglncmfaaaGreatGc
namespace Go.Proofs.YtnljdkglncmfaaaGreat
open Go.RowKit
set_option linter.unusedVariables false
section
variable {Q:Nat → Prop} {w:World} {G:Nat} {L:RL} {g:Gr}
set_option maxRecDepth 100000 in
set_option maxHeartbeats 6400000 in
theorem rgdo_not (h : RGAt Q w G L g) (hn : g.ms.length ≤ 16) (hnet : g.net.length ≤ 1000000) (k a ib ic : Int) (ht : g.there k a ≠ 0) :
    Calls Tryz.prog 20 #[.pointer (some ⟨G,0,none⟩),itV k a ib ic] w (RetRG Q g G L (.int .i64 (g.there k a)) w):=by
  have hal:=zC w (.cells #[.int .i64 k,.int .i64 a,.int .i64 ib,.int .i64 ic] 31)
  have g0:=zG w (.cells #[.int .i64 k,.int .i64 a,.int .i64 ib,.int .i64 ic] 31)
  obtain ⟨bm,hbm⟩:∃ bm:Bool,bm=(decide (1≤a) && decide (a≤(g.ms.length:Int))):=⟨_,rfl⟩
  have HMB:Hid (∀ W,RGAt Q W G L g → Calls Tryz.prog 43 #[.pointer (some ⟨G,0,none⟩),.int .i64 a] W fun e w'=>e=.returned (.bool bm)∧Below W.heap.size W w'):=fun W hW=>by
    have:=zBI hW a
    rwa [← hbm] at this
  have H1:=h.below hal
  obtain ⟨c0,c1,c2,f0,f1,f2,hlt⟩:=H1.cells
  obtain ⟨i0,i1,i2,i3,if1,ilt⟩:=box4 g0
  have HH1:=Lib.hid H1
  have HGA:=Lib.hid h
  obtain ⟨T,hT⟩:∃ T,T=g.there k a:=⟨_,rfl⟩
  rw [← hT]
  have hcase:(T=1∧(k<0∨(0≤k∧7<k)))∨(T=5∧(k=0∨k=1∨k=2∨k=6)∧bm=false)∨(T=5∧(k=3∨k=4∨k=5∨k=7)∧(a<0∨(0≤a∧(g.net.length:Int)≤a))):=by
    unfold Gr.there at ht hT
    by_cases q1:k=0∨k=1∨k=2∨k=6
    · rw [if_pos q1] at ht hT
      by_cases q2:a<1∨(g.ms.length:Int)<a
      · rw [if_pos q2] at hT
        refine .inr (.inl ⟨hT,q1,?_⟩)
        rw [hbm]
        rcases q2 with q | q
        · rw [decide_eq_false (by omega)];rfl
        · rw [decide_eq_false (show ¬ a≤(g.ms.length:Int) by omega),Bool.and_false]
      · rw [if_neg q2] at ht;exact (ht rfl).elim
    · rw [if_neg q1] at ht hT
      by_cases q3:k=3∨k=4∨k=5∨k=7
      · rw [if_pos q3] at ht hT
        by_cases q2:a<0∨(g.net.length:Int)≤a
        · rw [if_pos q2] at hT
          exact .inr (.inr ⟨hT,q3,by omega⟩)
        · rw [if_neg q2] at ht;exact (ht rfl).elim
      · rw [if_neg q3] at hT
        exact .inl ⟨hT,by omega⟩
  clear ht hT hbm h H1
  rcases hcase with ⟨rfl,hk⟩ | ⟨rfl,hk,rfl⟩ | ⟨rfl,hk,ha⟩
  · rcases hk with q | ⟨q,q2⟩
    all_goals (
      go_enter Tryz.func20,Tryz.ntmps20
      go_wp2
      go_ret
      exact ⟨L,rfl,HH1.out,.of_below hal⟩)
  · rcases hk with rfl | rfl | rfl | rfl
    all_goals (
      go_enter Tryz.func20,Tryz.ntmps20
      go_wp2_with (go_at_call 43;refine (HMB.out _ (by first | exact HH1.out | exact HH1.out.drew | exact HH1.out.below (zK _).drew)).mono ?_;rintro e w1 ⟨rfl,hb1⟩)
      have HB1:Hid (Below w.heap.size w w1):=by first | exact hal.trans (hb1.mono hal.size) | exact hal.drew.trans (hb1.mono hal.drew.size)
      have H2:=HGA.out.below HB1.out
      first | have g2:=zA hb1 g0 | have g2:=zA hb1 (zM g0)
      clear c0 c1 c2 f0 f1 f2 hlt i0 i1 i2 i3 if1 ilt hb1
      obtain ⟨c0,c1,c2,f0,f1,f2,hlt⟩:=H2.cells
      obtain ⟨i0,i1,i2,i3,if1,ilt⟩:=box4 g2
      clear H2
      go_quiet (fail)
      go_wp2
      go_ret
      exact ⟨L,rfl,(HGA.out.below (HB1.out.trans ((Below.many (zK w1) nq).mono HB1.out.size))),.of_below (HB1.out.trans ((Below.many (zK w1) nq).mono HB1.out.size))⟩)
  · have hcc:(k == 0)=false∧(k == 1)=false∧(k == 2)=false∧(k == 6)=false:=by simp;omega
    rcases hk with rfl | rfl | rfl | rfl <;> rcases ha with ha | ⟨ha,ha2⟩
    all_goals (
      go_enter Tryz.func20,Tryz.ntmps20
      go_wp2_with (go_at_call 43;refine (HMB.out _ (by first | exact HH1.out | exact HH1.out.drew | exact HH1.out.below (zK _).drew)).mono ?_;rintro e w1 ⟨rfl,hb1⟩)
      have HB1:Hid (Below w.heap.size w w1):=by first | exact hal.trans (hb1.mono hal.size) | exact hal.drew.trans (hb1.mono hal.drew.size)
      have H2:=HGA.out.below HB1.out
      first | have g2:=zA hb1 g0 | have g2:=zA hb1 (zM g0)
      clear c0 c1 c2 f0 f1 f2 hlt i0 i1 i2 i3 if1 ilt hb1
      obtain ⟨c0,c1,c2,f0,f1,f2,hlt⟩:=H2.cells
      obtain ⟨i0,i1,i2,i3,if1,ilt⟩:=box4 g2
      clear H2
      go_quiet (fail)
      go_wp2
      go_ret
      exact ⟨L,rfl,(HGA.out.below (HB1.out.trans ((Below.many (zK w1) nq).mono HB1.out.size))),.of_below (HB1.out.trans ((Below.many (zK w1) nq).mono HB1.out.size))⟩)
set_option maxRecDepth 100000 in
set_option maxHeartbeats 6400000 in
theorem rgdo_double (h:RGAt Q w G L g) (k:Nat) {x:Ms} (hx:g.net[k]?=some x) (hQ:∀ x,w.heap.size≤x → Q x) (ib ic:Int) (hnet:g.net.length≤1000000) :
    Calls Tryz.prog 20 #[.pointer (some ⟨G,0,none⟩),itV 5 (k:Int) ib ic] w (RetRG Q ⟨g.ms,g.net ++ [x]⟩ G L (.int .i64 0) w):=by
  obtain ⟨hk,hkx⟩:=List.getElem?_eq_some_iff.1 hx
  obtain ⟨s,hs⟩:∃ s,L.sl[k]?=some s:=⟨_,List.getElem?_eq_getElem (by rw [h.slen];exact hk)⟩
  have hal:=zC w (.cells #[.int .i64 5,.int .i64 (k:Int),.int .i64 ib,.int .i64 ic] 31)
  have g0:=zG w (.cells #[.int .i64 5,.int .i64 (k:Int),.int .i64 ib,.int .i64 ic] 31)
  obtain ⟨bm,hbm⟩:∃ bm:Bool,bm=(decide (1≤(k:Int)) && decide ((k:Int)≤(g.ms.length:Int))):=⟨_,rfl⟩
  have HMB:Hid (∀ W,RGAt Q W G L g → Calls Tryz.prog 43 #[.pointer (some ⟨G,0,none⟩),.int .i64 (k:Int)] W fun e w'=>e=.returned (.bool bm)∧Below W.heap.size W w'):=fun W hW=>by
    have:=zBI hW (k:Int)
    rwa [← hbm] at this
  clear hbm
  have H1:=h.below hal
  obtain ⟨c0,c1,c2,f0,f1,f2,hlt⟩:=H1.cells
  obtain ⟨i0,i1,i2,i3,if1,ilt⟩:=box4 g0
  have hk0:(0:Int)≤(k:Int):=by omega
  have hk1:(k:Int)<(g.net.length:Int):=by omega
  have hwi:=zS (x:=(k:Int)) (by omega) (by omega)
  have HH1:=Lib.hid H1
  have HG:=Lib.hid h
  obtain ⟨xk,xf,xd,xt,xi,xl,xc,xy,xe⟩:=x
  obtain ⟨sa,sc⟩:=s
  clear H1 h
  go_enter Tryz.func20,Tryz.ntmps20
  go_wp2_with (go_at_call 43;refine (HMB.out _ (by first | exact HH1.out | exact HH1.out.drew | exact HH1.out.below (zK _).drew)).mono ?_;rintro e w1 ⟨rfl,hb1⟩)
  have hw1:Below (w.alloc (.cells #[.int .i64 5,.int .i64 (k:Int),.int .i64 ib,.int .i64 ic] 31)).heap.size (w.alloc (.cells #[.int .i64 5,.int .i64 (k:Int),.int .i64 ib,.int .i64 ic] 31)) w1:=by first | exact hb1 | exact (zK _).drew.trans hb1
  have H2:=HH1.out.below hw1
  have g2:=zA hw1 g0
  clear c0 c1 c2 f0 f1 f2 hlt i0 i1 i2 i3 if1 ilt
  obtain ⟨c0,c1,c2,f0,f1,f2,hlt⟩:=H2.cells
  obtain ⟨i0,i1,i2,i3,if1,ilt⟩:=box4 g2
  have HH2:=Lib.hid H2
  have HB1:=Lib.hid (hal.trans (hw1.mono hal.size))
  clear H2 hw1 hb1 HH1
  go_quiet (fail)
  clear c0 c1 c2 f0 f1 f2 hlt i0 i1 i2 i3 if1 ilt
  have H3:=HH2.out.below (Below.many (zK _) nq)
  have g3:=zI g2 nq
  have HB3:=Lib.hid (HB1.out.trans ((Below.many (zK w1) nq).mono HB1.out.size))
  generalize w1.drewN nq=W3 at *
  obtain ⟨c0,c1,c2,f0,f1,f2,hlt⟩:=H3.cells
  obtain ⟨i0,i1,i2,i3,if1,ilt⟩:=box4 g3
  clear HH2 HB1 g2 hal g0
  go_wp2
  have ho1:=H3.net
  obtain ⟨nb,noff,hna,nblt,x0,x1,x2,x3,x4,x5,x6,x7,x8⟩:=msg_nine (RowAt.of_own H3.net) hx hs
  simp only at x0 x1 x2 x3 x4 x5 x6 x7 x8
  have hone:∀ u ∈ (Ms.mk xk xf xd xt xi xl xc xy xe).cells sa sc,u.oneCell'=true:=msC_one _ _ _
  have HG3:=Lib.hid H3
  have hGna:=H3.tops.2.2.2.1
  have hGne:∀ b,(Value.slice L.na g.net.length L.nc).ownBlock=some b → b≠G:=fun b hb e=>hGna (e ▸ zAT hb)
  have hna2:=hna
  rw [hna] at c2 ho1 hGne
  clear H3
  go_region_law (first
    | (refine zAV rfl (.tmp 139) (.tmp 148) rfl elemM 0 (.slice (some ⟨nb,noff,none⟩) g.net.length L.nc) g.net.length (msV g.net L.sl) (by rfl) (zD ho1 ((zK W3).drew.alloc (Nat.le_refl _) _)) (some ⟨W3.heap.size,0,none⟩) 1 1 ((Ms.mk xk xf xd xt xi xl xc xy xe).cells sa sc) (by rfl) (by rfl) (RowAt.new W3.drew _ _) hone (by unfold maxLen;omega) (by omega) (Nat.zero_le _) (fun h=>by cases h) ?_;intro a5 c5 w5 own5 hg5 hat5;have G5:=zY hg5 (zH (zM HG3.out.blk) (.cells ((Ms.mk xk xf xd xt xi xl xc xy xe).cells sa sc).toArray 78)) (fun e=>hGne _ e rfl);obtain ⟨k0,k1,k2,kf0,kf1,kf2,klt⟩:=box3 G5;(try go_simp)))
  all_goals go_wp2
  all_goals go_ret
  all_goals (
    have hbW:Below W3.heap.size W3 (W3.drew.alloc (.cells ((Ms.mk xk xf xd xt xi xl xc xy xe).cells sa sc).toArray 78)):=(zK W3).drew.alloc (Nat.le_refl _) _
    have HGA:=HG3.out.below hbW
    have hC:Chg (zU L.na) (W3.drew.alloc (.cells ((Ms.mk xk xf xd xt xi xl xc xy xe).cells sa sc).toArray 78)) w5:=(Chg.refl _ _).grown hg5 (fun b hb=>.inl (by rw [hna2];exact zAT hb))
    have hsl1:L.sl.length=g.net.length:=HGA.slen
    have hlen:(g.net ++ [(Ms.mk xk xf xd xt xi xl xc xy xe)]).length=g.net.length+1:=by simp
    have own6:w5.ownsRow 0 78 9 (.slice a5 (g.net ++ [(Ms.mk xk xf xd xt xi xl xc xy xe)]).length c5) (g.net ++ [(Ms.mk xk xf xd xt xi xl xc xy xe)]).length (msV (g.net ++ [(Ms.mk xk xf xd xt xi xl xc xy xe)]) (L.sl ++ [(sa,sc)])):=by
      rw [hlen,msV_snoc HGA.slen]
      exact own5
    obtain ⟨R1,R2⟩:=HGA.netTo (l:=g.net ++ [(Ms.mk xk xf xd xt xi xl xc xy xe)]) (sl:=L.sl ++ [(sa,sc)]) hC own6 (by simp [hsl1]) (fun j hj=>by
      by_cases hjn:j<g.net.length
      · have e1:(g.net ++ [(Ms.mk xk xf xd xt xi xl xc xy xe)])[j]=g.net[j]:=List.getElem_append_left hjn
        have e2:(L.sl ++ [(sa,sc)]).getD j (none,0)=L.sl.getD j (none,0):=by rw [List.getD_eq_getElem?_getD,List.getD_eq_getElem?_getD,List.getElem?_append_left (by rw [hsl1];exact hjn)]
        obtain ⟨q1,q2⟩:=HGA.ents j hjn
        rw [e1,e2]
        exact ⟨q1.chgO hC (q2.mono fun x hx hc=>hx.1 (rall_na hc)),fun hn b o e=>.inl ⟨(q2 hn b o e).1,(q2 hn b o e).2,q1.ltO hn b o e⟩⟩
      · have hj0:j=g.net.length:=by rw [hlen] at hj;omega
        subst hj0
        have e1:(g.net ++ [(Ms.mk xk xf xd xt xi xl xc xy xe)])[g.net.length]=g.net[k]:=by rw [hkx];simp
        have e2:(L.sl ++ [(sa,sc)]).getD g.net.length (none,0)=L.sl.getD k (none,0):=by rw [List.getD_eq_getElem?_getD,List.getD_eq_getElem?_getD,List.getElem?_append_right (by omega),hsl1,Nat.sub_self,hs];rfl
        obtain ⟨q1,q2⟩:=HGA.ents k hk
        rw [e1,e2]
        exact ⟨q1.chgO hC (q2.mono fun x hx hc=>hx.1 (rall_na hc)),fun hn b o e=>.inl ⟨(q2 hn b o e).1,(q2 hn b o e).2,q1.ltO hn b o e⟩⟩) (fun x hx=>by
      rcases hat5 with h1 | h1
      · have:=mem_ownBlock (n:=g.net.length+1) (c:=c5) hx
        rw [h1] at this
        exact .inl (by rw [hna2];exact zAT this)
      · have:=mem_ownBlock (n:=g.net.length+1) (c:=c5) hx
        rw [h1] at this
        injection this with this
        exact .inr (by first | exact Nat.le_of_eq this | exact Nat.le_of_eq this.symm | (simp at this ⊢;omega))) (fun x hx=>hQ x (Nat.le_trans HB3.out.size (Nat.le_trans hbW.size hx)))
    rw [hlen] at R1 R2
    exact ⟨_,rfl,R1,RGStep.pre (HB3.out.trans (hbW.mono HB3.out.size)) R2⟩)
end
end Go.Proofs.YtnljdkglncmfaaaGreat
