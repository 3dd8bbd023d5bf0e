/-
  Part RhI of the proof.
-/
import Derived.Test.YtnljdkglncmfaaaGreatGc
namespace Go.Proofs.YtnljdkglncmfaaaGreat
open Go.RowKit
set_option linter.unusedVariables false
section
variable {Q:Nat → Prop} {w:World} {G:Nat} {L:RL} {g:Gr}
set_option maxRecDepth 100000 in
set_option maxHeartbeats 6400000 in
theorem rgdo_crash (h:RGAt Q w G L g) (hgo:GrOk g) (i:Nat) {p:Mb × Vt} (hp:g.ms[i]?=some p) (hQ:∀ x,w.heap.size≤x → Q x) (ib ic:Int) :
    Calls Tryz.prog 20 #[.pointer (some ⟨G,0,none⟩),itV 6 ((i:Int)+1) ib ic] w (RetRG Q (g.crash ((i:Int)+1) ib) G L (.int .i64 0) w):=by
  have hal:=zC w (.cells #[.int .i64 6,.int .i64 ((i:Int)+1),.int .i64 ib,.int .i64 ic] 31)
  have g0:=zG w (.cells #[.int .i64 6,.int .i64 ((i:Int)+1),.int .i64 ib,.int .i64 ic] 31)
  have hi:i<g.ms.length:=(List.getElem?_eq_some_iff.1 hp).1
  have hn16:=hgo.n16
  have HMB:Hid (∀ W,RGAt Q W G L g → Calls Tryz.prog 43 #[.pointer (some ⟨G,0,none⟩),.int .i64 ((i:Int)+1)] W fun e w'=>e=.returned (.bool true)∧Below W.heap.size W w'):=fun W hW=>by
    have:=zBI hW ((i:Int)+1)
    rwa [show (decide (1≤(i:Int)+1) && decide ((i:Int)+1≤(g.ms.length:Int)))=true by rw [decide_eq_true (by omega),decide_eq_true (by omega)];rfl] at this
  have H1:=h.below hal
  obtain ⟨c0,c1,c2,f0,f1,f2,hlt⟩:=H1.cells
  obtain ⟨i0,i1,i2,i3,if1,ilt⟩:=box4 g0
  have hk0:(0:Int)≤(i:Int):=by omega
  have hk1:(i:Int)<(g.ms.length:Int):=by omega
  have hwi:=zS (x:=(i:Int)) (by omega) (by omega)
  have HH1:=Lib.hid H1
  have hpo:=hgo.pair i p hp
  have HR:Hid (g.crash ((i:Int)+1) ib=⟨g.ms.set i (fresh ((i:Int)+1) g.ms.length (zAD p.2 ib),zAD p.2 ib),g.net⟩):=by
    unfold Gr.crash Gr.anew Gr.set
    rw [Hid,at_idx hp,show ((i:Int)+1) - 1=(i:Int) by omega,Int.toNat_natCast]
  have HCR:Hid (∀ W,w.heap.size≤W.heap.size → RGAt Q W G L g → Calls Tryz.prog 50 #[.pointer (some ⟨G,0,none⟩),.int .i64 ((i:Int)+1),.int .i64 ib] W (RetRG Q ⟨g.ms.set i (fresh ((i:Int)+1) g.ms.length (zAD p.2 ib),zAD p.2 ib),g.net⟩ G L (.tuple #[]) W)):=fun W hz hW=>rgcrash_any hW i hp hn16 hpo.vt hpo.le ib (by rw [hpo.crash0 ib];exact (hpo.again hi hn16).1) (fun x hx=>hQ x (Nat.le_trans hz hx))
  clear H1 hgo hpo h
  generalize zAD p.2 ib=y at *
  go_enter Tryz.func20,Tryz.ntmps20
  go_wp2_with (go_at_call 43;refine (HMB.out _ (by first | exact HH1.out | exact HH1.out.drew | exact HH1.out.below (zK _).drew)).mono ?_;rintro e w1 ⟨rfl,hb1⟩)
  have hw1:Below (w.alloc (.cells #[.int .i64 6,.int .i64 ((i:Int)+1),.int .i64 ib,.int .i64 ic] 31)).heap.size (w.alloc (.cells #[.int .i64 6,.int .i64 ((i:Int)+1),.int .i64 ib,.int .i64 ic] 31)) w1:=by first | exact hb1 | exact (zK _).drew.trans hb1
  have H2:=HH1.out.below hw1
  have g2:=zA hw1 g0
  clear c0 c1 c2 f0 f1 f2 hlt i0 i1 i2 i3 if1 ilt
  obtain ⟨c0,c1,c2,f0,f1,f2,hlt⟩:=H2.cells
  obtain ⟨i0,i1,i2,i3,if1,ilt⟩:=box4 g2
  have HH2:=Lib.hid H2
  have HB1:=Lib.hid (hal.trans (hw1.mono hal.size))
  clear H2 hw1 hb1 HH1
  go_quiet (fail)
  clear c0 c1 c2 f0 f1 f2 hlt i0 i1 i2 i3 if1 ilt
  have H3:=HH2.out.below (Below.many (zK _) nq)
  have g3:=zI g2 nq
  have HB3:=Lib.hid (HB1.out.trans ((Below.many (zK w1) nq).mono HB1.out.size))
  generalize w1.drewN nq=W3 at *
  obtain ⟨c0,c1,c2,f0,f1,f2,hlt⟩:=H3.cells
  obtain ⟨i0,i1,i2,i3,if1,ilt⟩:=box4 g3
  clear HH2 HB1 g2 hal g0
  have HP1:=Lib.hid (HCR.out W3 HB3.out.size H3)
  have HP2:=Lib.hid (HCR.out W3.drew HB3.out.drew.size (H3.below (zK W3).drew))
  go_wp2_with (go_at_call 50;refine (by first | with_reducible exact HP1.out | with_reducible exact HP2.out:Calls _ _ _ _ _).mono ?_;rintro e w7 ⟨L7,rfl,h7,S7⟩)
  go_ret
  rw [HR.out]
  exact ⟨L7,rfl,h7,RGStep.pre HB3.out S7⟩
set_option maxRecDepth 100000 in
set_option maxHeartbeats 6400000 in
theorem rgdo_lose (h:RGAt Q w G L g) (k:Nat) {x:Ms} (hx:g.net[k]?=some x) (hQ:∀ x,w.heap.size≤x → Q x) (ib ic:Int) (hnet:g.net.length≤1000000) :
    Calls Tryz.prog 20 #[.pointer (some ⟨G,0,none⟩),itV 4 (k:Int) ib ic] w (RetRG Q (g.take k) G L (.int .i64 0) w):=by
  obtain ⟨hk,hkx⟩:=List.getElem?_eq_some_iff.1 hx
  obtain ⟨s,hs⟩:∃ s,L.sl[k]?=some s:=⟨_,List.getElem?_eq_getElem (by rw [h.slen];exact hk)⟩
  have hal:=zC w (.cells #[.int .i64 4,.int .i64 (k:Int),.int .i64 ib,.int .i64 ic] 31)
  have g0:=zG w (.cells #[.int .i64 4,.int .i64 (k:Int),.int .i64 ib,.int .i64 ic] 31)
  obtain ⟨bm,hbm⟩:∃ bm:Bool,bm=(decide (1≤(k:Int)) && decide ((k:Int)≤(g.ms.length:Int))):=⟨_,rfl⟩
  have HMB:Hid (∀ W,RGAt Q W G L g → Calls Tryz.prog 43 #[.pointer (some ⟨G,0,none⟩),.int .i64 (k:Int)] W fun e w'=>e=.returned (.bool bm)∧Below W.heap.size W w'):=fun W hW=>by
    have:=zBI hW (k:Int)
    rwa [← hbm] at this
  clear hbm
  have H1:=h.below hal
  obtain ⟨c0,c1,c2,f0,f1,f2,hlt⟩:=H1.cells
  obtain ⟨i0,i1,i2,i3,if1,ilt⟩:=box4 g0
  have hk0:(0:Int)≤(k:Int):=by omega
  have hk1:(k:Int)<(g.net.length:Int):=by omega
  have hwi:=zS (x:=(k:Int)) (by omega) (by omega)
  have HH1:=Lib.hid H1
  have HTK:Hid (∀ W,w.heap.size≤W.heap.size → RGAt Q W G L g → Calls Tryz.prog 48 #[.pointer (some ⟨G,0,none⟩),.int .i64 (k:Int)] W (fun e w'=>e=.returned (x.val s.1 s.2)∧∃ L',RGAt Q w' G L' (g.take k)∧RGStep W G L w' L'∧L'.mem=L.mem)):=fun W hz hW=>rgtake_any hW k hx hs hnet (fun x hx=>hQ x (Nat.le_trans hz hx))
  clear H1 h
  go_enter Tryz.func20,Tryz.ntmps20
  go_wp2_with (go_at_call 43;refine (HMB.out _ (by first | exact HH1.out | exact HH1.out.drew | exact HH1.out.below (zK _).drew)).mono ?_;rintro e w1 ⟨rfl,hb1⟩)
  have hw1:Below (w.alloc (.cells #[.int .i64 4,.int .i64 (k:Int),.int .i64 ib,.int .i64 ic] 31)).heap.size (w.alloc (.cells #[.int .i64 4,.int .i64 (k:Int),.int .i64 ib,.int .i64 ic] 31)) w1:=by first | exact hb1 | exact (zK _).drew.trans hb1
  have H2:=HH1.out.below hw1
  have g2:=zA hw1 g0
  clear c0 c1 c2 f0 f1 f2 hlt i0 i1 i2 i3 if1 ilt
  obtain ⟨c0,c1,c2,f0,f1,f2,hlt⟩:=H2.cells
  obtain ⟨i0,i1,i2,i3,if1,ilt⟩:=box4 g2
  have HH2:=Lib.hid H2
  have HB1:=Lib.hid (hal.trans (hw1.mono hal.size))
  clear H2 hw1 hb1 HH1
  go_quiet (fail)
  clear c0 c1 c2 f0 f1 f2 hlt i0 i1 i2 i3 if1 ilt
  have H3:=HH2.out.below (Below.many (zK _) nq)
  have g3:=zI g2 nq
  have HB3:=Lib.hid (HB1.out.trans ((Below.many (zK w1) nq).mono HB1.out.size))
  generalize w1.drewN nq=W3 at *
  obtain ⟨c0,c1,c2,f0,f1,f2,hlt⟩:=H3.cells
  obtain ⟨i0,i1,i2,i3,if1,ilt⟩:=box4 g3
  clear HH2 HB1 g2 hal g0
  have HP1:=Lib.hid (HTK.out W3 HB3.out.size H3)
  have HP2:=Lib.hid (HTK.out W3.drew HB3.out.drew.size (H3.below (zK W3).drew))
  go_wp2_with (go_at_call 48;refine (by first | with_reducible exact HP1.out | with_reducible exact HP2.out:Calls _ _ _ _ _).mono ?_;rintro e w7 ⟨rfl,L7,h7,S7,_⟩)
  go_ret
  exact ⟨L7,rfl,h7,RGStep.pre HB3.out S7⟩
set_option maxRecDepth 100000 in
set_option maxHeartbeats 6400000 in
theorem rgdo_deliver (h:RGAt Q w G L g) (hgo:GrOk g) (k:Nat) {x:Ms} (hx:g.net[k]?=some x) (hQ:∀ x,w.heap.size≤x → Q x) (ib ic:Int) (hnet:g.net.length≤1000000) :
    Calls Tryz.prog 20 #[.pointer (some ⟨G,0,none⟩),itV 3 (k:Int) ib ic] w (RetRG Q ((g.take k).hears x) G L (.int .i64 0) w):=by
  obtain ⟨hk,hkx⟩:=List.getElem?_eq_some_iff.1 hx
  obtain ⟨s,hs⟩:∃ s,L.sl[k]?=some s:=⟨_,List.getElem?_eq_getElem (by rw [h.slen];exact hk)⟩
  have hal:=zC w (.cells #[.int .i64 3,.int .i64 (k:Int),.int .i64 ib,.int .i64 ic] 31)
  have g0:=zG w (.cells #[.int .i64 3,.int .i64 (k:Int),.int .i64 ib,.int .i64 ic] 31)
  obtain ⟨bm,hbm⟩:∃ bm:Bool,bm=(decide (1≤(k:Int)) && decide ((k:Int)≤(g.ms.length:Int))):=⟨_,rfl⟩
  have HMB:Hid (∀ W,RGAt Q W G L g → Calls Tryz.prog 43 #[.pointer (some ⟨G,0,none⟩),.int .i64 (k:Int)] W fun e w'=>e=.returned (.bool bm)∧Below W.heap.size W w'):=fun W hW=>by
    have:=zBI hW (k:Int)
    rwa [← hbm] at this
  clear hbm
  have H1:=h.below hal
  obtain ⟨c0,c1,c2,f0,f1,f2,hlt⟩:=H1.cells
  obtain ⟨i0,i1,i2,i3,if1,ilt⟩:=box4 g0
  have hk0:(0:Int)≤(k:Int):=by omega
  have hk1:(k:Int)<(g.net.length:Int):=by omega
  have hwi:=zS (x:=(k:Int)) (by omega) (by omega)
  have HH1:=Lib.hid H1
  have hxo:MsOk g.ms.length x:=hgo.net x (List.mem_of_getElem? hx)
  obtain ⟨i,hxi⟩:∃ i:Nat,x.dst=(i:Int)+1:=⟨(x.dst - 1).toNat,by have:=hxo.dst;omega⟩
  have hi:i<g.ms.length:=by have:=hxo.dst;omega
  have hn16:=hgo.n16
  obtain ⟨p,hp⟩:∃ p,g.ms[i]?=some p:=⟨_,List.getElem?_eq_getElem hi⟩
  obtain ⟨r,hr⟩:=h.rOf hp
  have hpo:=hgo.pair i p hp
  have hpt:(g.take k).ms[i]?=some p:=hp
  have hrm:r ∈ L.mem:=List.mem_of_getElem? hr
  obtain ⟨hen1,hen2⟩:=h.ents k hk
  rw [List.getD_eq_getElem?_getD,hs,Option.getD_some,hkx] at hen1 hen2
  have HTK:Hid (∀ W,w.heap.size≤W.heap.size → RGAt Q W G L g → Calls Tryz.prog 48 #[.pointer (some ⟨G,0,none⟩),.int .i64 (k:Int)] W (fun e w'=>e=.returned (x.val s.1 s.2)∧∃ L',RGAt Q w' G L' (g.take k)∧RGStep W G L w' L'∧L'.mem=L.mem)):=fun W hz hW=>rgtake_any hW k hx hs hnet (fun x hx=>hQ x (Nat.le_trans hz hx))
  have HHE:Hid (∀ W,RMAt W r.b r.a p.1 → LogIn W s.1 s.2 x.ents → Calls Tryz.prog 49 #[.pointer (some ⟨r.b,0,none⟩),x.val s.1 s.2] W (RetRR (p.1.hear x).1 (p.1.hear x).2 r.b r.a p.1 W)):=fun W hM hl=>rhear_any hM hpo.mb x s.1 s.2 hl (by have:=hxo.len;omega) (by have:=hxo.index;omega) (hen2.mono fun y hy hc=>hy.1 (zBZ hrm (zCV hc)))
  have HIN:=Lib.hid (show InGr (g.take k).ms.length (p.1.hear x).1 from (hpo.inGr.hear hxo).1)
  have HLE:=Lib.hid (hear_le hpo.mb x)
  have HGT:=Lib.hid (hgo.take k)
  have HPT:=Lib.hid hpt
  have HRR:=Lib.hid hr
  have HR:Hid ((g.take k).hears x=(g.take k).acts ((i:Int)+1) (p.1.hear x).1 (p.1.hear x).2):=by
    unfold Gr.hears
    rw [Hid,hxi,at_idx hpt]
  have hlts:=h.lt
  have hnt:(g.take k).net.length≤1000000:=by have:(g.take k).net.length≤g.net.length:=List.length_eraseIdx_le ..;omega
  clear hpo hpt hxo hgo h hp hr H1
  generalize p.1.hear x=rr at *
  obtain ⟨m',said⟩:=rr
  simp only at HHE HIN HLE HR
  generalize (g.take k).hears x=gr at *
  obtain ⟨xk,xf,xd,xt,xi,xl,xc,xy,xe⟩:=x
  obtain ⟨sa,sc⟩:=s
  simp only at hxi
  subst hxi
  simp only at HHE hen1 hen2
  clear hx hkx
  go_enter Tryz.func20,Tryz.ntmps20
  go_wp2_with (go_at_call 43;refine (HMB.out _ (by first | exact HH1.out | exact HH1.out.drew | exact HH1.out.below (zK _).drew)).mono ?_;rintro e w1 ⟨rfl,hb1⟩)
  have hw1:Below (w.alloc (.cells #[.int .i64 3,.int .i64 (k:Int),.int .i64 ib,.int .i64 ic] 31)).heap.size (w.alloc (.cells #[.int .i64 3,.int .i64 (k:Int),.int .i64 ib,.int .i64 ic] 31)) w1:=by first | exact hb1 | exact (zK _).drew.trans hb1
  have H2:=HH1.out.below hw1
  have g2:=zA hw1 g0
  clear c0 c1 c2 f0 f1 f2 hlt i0 i1 i2 i3 if1 ilt
  obtain ⟨c0,c1,c2,f0,f1,f2,hlt⟩:=H2.cells
  obtain ⟨i0,i1,i2,i3,if1,ilt⟩:=box4 g2
  have HH2:=Lib.hid H2
  have HB1:=Lib.hid (hal.trans (hw1.mono hal.size))
  clear H2 hw1 hb1 HH1
  go_quiet (fail)
  clear c0 c1 c2 f0 f1 f2 hlt i0 i1 i2 i3 if1 ilt
  have H3:=HH2.out.below (Below.many (zK _) nq)
  have g3:=zI g2 nq
  have HB3:=Lib.hid (HB1.out.trans ((Below.many (zK w1) nq).mono HB1.out.size))
  generalize w1.drewN nq=W3 at *
  obtain ⟨c0,c1,c2,f0,f1,f2,hlt⟩:=H3.cells
  obtain ⟨i0,i1,i2,i3,if1,ilt⟩:=box4 g3
  clear HH2 HB1 g2 hal g0
  have HP1:=Lib.hid (HTK.out W3 HB3.out.size H3)
  have HP2:=Lib.hid (HTK.out W3.drew HB3.out.drew.size (H3.below (zK W3).drew))
  go_upto_region 20 with (go_at_call 48;refine (by first | with_reducible exact HP1.out | with_reducible exact HP2.out:Calls _ _ _ _ _).mono ?_;rintro e w4 ⟨rfl,L4,h4,S4,hmem4⟩)
  clear c0 c1 c2 f0 f1 f2 hlt i0 i1 i2 i3 if1 ilt HP1 HP2
  have S14:=RGStep.pre HB3.out S4
  have hal4:=zC w4 (.cells #[.int .i64 xk,.int .i64 xf,.int .i64 ((i:Int)+1),.int .i64 xt,.int .i64 xi,.int .i64 xl,.int .i64 xc,.bool xy,.slice sa xe.length sc] 78)
  have g5:=zG w4 (.cells #[.int .i64 xk,.int .i64 xf,.int .i64 ((i:Int)+1),.int .i64 xt,.int .i64 xi,.int .i64 xl,.int .i64 xc,.bool xy,.slice sa xe.length sc] 78)
  have H5:=h4.below hal4
  have S15:=S14.below hal4
  have hl5:=(hen1.chgO S14.chg (hen2.mono fun y hy=>hy.1)).below hal4
  have hr4:L4.mem[i]?=some r:=by rw [hmem4];exact HRR.out
  have hrm4:=List.mem_of_getElem? hr4
  have hlt4:=h4.lt
  have hnX:w4.heap.size ∉ rfoot r.b r.a:=fun hc=>by have:=hlt4 _ (zBZ hrm4 (zCV hc));omega
  have hnG:G ∉ rfoot r.b r.a:=fun hc=>(h4.notMG hrm4 (zCV hc)).1 rfl
  have hnM:L4.mo ∉ rfoot r.b r.a:=fun hc=>(h4.notMG hrm4 (zCV hc)).2.1 rfl
  clear h4 S4 S14 hal4 hen1 hen2 hlt4 hlts H3 g3 hrm
  generalize w4.alloc (.cells #[.int .i64 xk,.int .i64 xf,.int .i64 ((i:Int)+1),.int .i64 xt,.int .i64 xi,.int .i64 xl,.int .i64 xc,.bool xy,.slice sa xe.length sc] 78)=W5 at *
  generalize w4.heap.size=F5 at *
  have HD:=H5.below (zK W5).drew
  have hR5:=(HD.mem i r p hr4 HPT.out).1
  have HP5:=Lib.hid (HHE.out W5.drew hR5 (hl5.below (zK W5).drew))
  have gG0:=HD.blk
  have gX0:=zM g5
  obtain ⟨c0,c1,c2,f0,f1,f2,hlt⟩:=H5.cells
  replace c0:W5.cell? ⟨G,0,none⟩=some (.slice (some ⟨L4.mo,0,none⟩) g.ms.length L4.mc):=c0
  obtain ⟨m0,m1,m2⟩:=H5.mcell hr4
  obtain ⟨x0,x1,x2,x3,x4,x5,x6,x7,x8⟩:=box9 g5
  have flt:=zB g5
  have hj0:(0:Int)≤(i:Int):=by omega
  have hj1:(i:Int)<(g.ms.length:Int):=by omega
  have hwj:=zS (x:=(i:Int)) (by omega) (by omega)
  have HQ5:Hid (∀ x,W5.drew.heap.size≤x → Q x):=fun x hx=>hQ x (Nat.le_trans S15.chg.size (by simpa using hx))
  go_region_held3 (fun W=>W.cell? ⟨G,0,none⟩=some (.slice (some ⟨L4.mo,0,none⟩) g.ms.length L4.mc)∧W.cell? ⟨F5,0,none⟩=some (.int .i64 xk)∧W.cell? ⟨F5,1,none⟩=some (.int .i64 xf)∧W.cell? ⟨F5,2,none⟩=some (.int .i64 ((i:Int)+1))∧W.cell? ⟨F5,3,none⟩=some (.int .i64 xt)∧W.cell? ⟨F5,4,none⟩=some (.int .i64 xi)∧W.cell? ⟨F5,5,none⟩=some (.int .i64 xl)∧W.cell? ⟨F5,6,none⟩=some (.int .i64 xc)∧W.cell? ⟨F5,7,none⟩=some (.bool xy)∧W.cell? ⟨F5,8,none⟩=some (.slice sa xe.length sc)∧W.cell? ⟨L4.mo,i,none⟩=some (.pointer (some ⟨r.b,0,none⟩))) (first | with_reducible exact ⟨c0,x0,x1,x2,x3,x4,x5,x6,x7,x8,m0⟩ | with_reducible exact ⟨d9,j0,j1,j2,j3,j4,j5,j6,j7,j8,q0⟩ | go_keep) ((go_at_call 49;refine HP5.out.mono ?_;rintro e w6 ⟨a6,B6,A6,c6,sl6,rfl,hM6,hS6,hB6,hF6,ms6⟩;have g6:=hS6.chg.keep gX0 hnX;have gG6:=hS6.chg.keep gG0 hnG;obtain ⟨j0,j1,j2,j3,j4,j5,j6,j7,j8⟩:=box9 g6;have jlt:=zB g6;obtain ⟨d0,d1,d2,df0,df1,df2,dlt⟩:=box3 gG6;have d9:w6.cell? ⟨G,0,none⟩=some (.slice (some ⟨L4.mo,0,none⟩) g.ms.length L4.mc):=d0;have q0:w6.cell? ⟨L4.mo,i,none⟩=some (.pointer (some ⟨r.b,0,none⟩)):=(hS6.chg.cell (HD.lt _ (rall_mo G L4)) hnM).trans (HD.mcell hr4).1))
  obtain ⟨L7,h7,S7,hB7⟩:=HD.didX hr4 HPT.out HQ5.out hM6 hS6 hB6 hF6
  have S8:=(S15.below (zK W5).drew).trans S7
  have hw8:=S8.chg.size
  clear c0 c1 c2 f0 f1 f2 hlt m0 m1 m2 x0 x1 x2 x3 x4 x5 x6 x7 x8 flt d0 d1 d2 d9 df0 df1 df2 dlt q0
  have HAC:=Lib.hid (rgacts_said HGT.out HPT.out HIN.out h7 ms6 hB7 (fun x hx=>hQ x (Nat.le_trans hw8 hx)) (fun x hx=>HQ5.out x (Nat.le_trans hB6 hx)) HLE.out hnt)
  clear h7 hM6 hS6 ms6 S7 HD H5 hR5 hl5
  go_wp2_with (go_at_call 45;refine HAC.out.mono ?_;rintro e w9 ⟨L9,rfl,h9,S9⟩)
  go_ret
  rw [HR.out]
  exact ⟨L9,rfl,h9,S8.trans S9⟩
set_option maxRecDepth 100000 in
set_option maxHeartbeats 6400000 in
theorem rgdo_torn (h:RGAt Q w G L g) (hgo:GrOk g) (k:Nat) {x:Ms} (hx:g.net[k]?=some x) (hQ:∀ x,w.heap.size≤x → Q x) (ib ic:Int) (hnet:g.net.length≤1000000) :
    Calls Tryz.prog 20 #[.pointer (some ⟨G,0,none⟩),itV 7 (k:Int) ib ic] w (RetRG Q ((g.take k).torn x ib) G L (.int .i64 0) w):=by
  obtain ⟨hk,hkx⟩:=List.getElem?_eq_some_iff.1 hx
  obtain ⟨s,hs⟩:∃ s,L.sl[k]?=some s:=⟨_,List.getElem?_eq_getElem (by rw [h.slen];exact hk)⟩
  have hal:=zC w (.cells #[.int .i64 7,.int .i64 (k:Int),.int .i64 ib,.int .i64 ic] 31)
  have g0:=zG w (.cells #[.int .i64 7,.int .i64 (k:Int),.int .i64 ib,.int .i64 ic] 31)
  obtain ⟨bm,hbm⟩:∃ bm:Bool,bm=(decide (1≤(k:Int)) && decide ((k:Int)≤(g.ms.length:Int))):=⟨_,rfl⟩
  have HMB:Hid (∀ W,RGAt Q W G L g → Calls Tryz.prog 43 #[.pointer (some ⟨G,0,none⟩),.int .i64 (k:Int)] W fun e w'=>e=.returned (.bool bm)∧Below W.heap.size W w'):=fun W hW=>by
    have:=zBI hW (k:Int)
    rwa [← hbm] at this
  clear hbm
  have H1:=h.below hal
  obtain ⟨c0,c1,c2,f0,f1,f2,hlt⟩:=H1.cells
  obtain ⟨i0,i1,i2,i3,if1,ilt⟩:=box4 g0
  have hk0:(0:Int)≤(k:Int):=by omega
  have hk1:(k:Int)<(g.net.length:Int):=by omega
  have hwi:=zS (x:=(k:Int)) (by omega) (by omega)
  have HH1:=Lib.hid H1
  have HTK:Hid (∀ W,w.heap.size≤W.heap.size → RGAt Q W G L g → Calls Tryz.prog 51 #[.pointer (some ⟨G,0,none⟩),itV 7 (k:Int) ib ic] W (RetRG Q ((g.take k).torn x ib) G L (.tuple #[]) W)):=fun W hz hW=>rgtorn_any hW k hx hs hgo (fun x hx=>hQ x (Nat.le_trans hz hx)) hnet 7 ib ic
  clear H1 h hgo
  generalize (g.take k).torn x ib=gr at *
  go_enter Tryz.func20,Tryz.ntmps20
  go_wp2_with (go_at_call 43;refine (HMB.out _ (by first | exact HH1.out | exact HH1.out.drew | exact HH1.out.below (zK _).drew)).mono ?_;rintro e w1 ⟨rfl,hb1⟩)
  have hw1:Below (w.alloc (.cells #[.int .i64 7,.int .i64 (k:Int),.int .i64 ib,.int .i64 ic] 31)).heap.size (w.alloc (.cells #[.int .i64 7,.int .i64 (k:Int),.int .i64 ib,.int .i64 ic] 31)) w1:=by first | exact hb1 | exact (zK _).drew.trans hb1
  have H2:=HH1.out.below hw1
  have g2:=zA hw1 g0
  clear c0 c1 c2 f0 f1 f2 hlt i0 i1 i2 i3 if1 ilt
  obtain ⟨c0,c1,c2,f0,f1,f2,hlt⟩:=H2.cells
  obtain ⟨i0,i1,i2,i3,if1,ilt⟩:=box4 g2
  have HH2:=Lib.hid H2
  have HB1:=Lib.hid (hal.trans (hw1.mono hal.size))
  clear H2 hw1 hb1 HH1
  go_quiet (fail)
  clear c0 c1 c2 f0 f1 f2 hlt i0 i1 i2 i3 if1 ilt
  have H3:=HH2.out.below (Below.many (zK _) nq)
  have g3:=zI g2 nq
  have HB3:=Lib.hid (HB1.out.trans ((Below.many (zK w1) nq).mono HB1.out.size))
  generalize w1.drewN nq=W3 at *
  obtain ⟨c0,c1,c2,f0,f1,f2,hlt⟩:=H3.cells
  obtain ⟨i0,i1,i2,i3,if1,ilt⟩:=box4 g3
  clear HH2 HB1 g2 hal g0
  have HP1:=Lib.hid (HTK.out W3 HB3.out.size H3)
  have HP2:=Lib.hid (HTK.out W3.drew HB3.out.drew.size (H3.below (zK W3).drew))
  go_wp2_with (go_at_call 51;refine (by first | with_reducible exact HP1.out | with_reducible exact HP2.out:Calls _ _ _ _ _).mono ?_;rintro e w7 ⟨L7,rfl,h7,S7⟩)
  go_ret
  exact ⟨L7,rfl,h7,RGStep.pre HB3.out S7⟩
end
end Go.Proofs.YtnljdkglncmfaaaGreat
