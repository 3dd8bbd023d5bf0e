/-
  Part Gd of the proof.
-/
import Derived.Test.YtnljdkglncmfaaaGreatBh
import Derived.Test.YtnljdkglncmfaaaGreatBi
import Derived.Test.YtnljdkglncmfaaaGreatRd
namespace Go.Proofs.YtnljdkglncmfaaaGreat
open Go.RowKit
set_option linter.unusedVariables false
theorem RetR.oneB {w w1 w':World} {b B:Nat} {a a':MA} {m':Mb} (x:Ms) {A:Option Addr} {c:Nat} (h:MAt w1 b a' m') (hs:Step w b a w1 a') (hB:w.heap.size≤B) (hF:∀ x ∈ foot b a',x<B) (he:w1.ownsRow B 42 7 (.slice A x.ents.length c) x.ents.length (ensV x.ents)) (hB1:B≤w1.heap.size)
    (hw:w'=w1.alloc (.cells #[.int .i64 x.kind,.int .i64 x.frm,.int .i64 x.dst,.int .i64 x.term,.int .i64 x.index,.int .i64 x.lterm,.int .i64 x.commit,.bool x.yes,.slice A x.ents.length c] 78)):RetR m' [x] b a w (.returned (.slice (some ⟨w1.heap.size,0,none⟩) 1 1)) w':=by
  subst hw
  exact ⟨a',B,_,1,_,rfl,h.below (zC _ _),hs.below (zC _ _),hB,hF,MsAt.one x A c hB1 he⟩
section
variable {w:World} {b:Nat} {a:MA} {m:Mb}
set_option maxRecDepth 100000 in
set_option maxHeartbeats 6400000 in
theorem added_no (h:MAt w b a m) (hok:MbOk m) (xk xd xt xi xl xc:Int) (j:Nat) (hj:j<m.prog.length) (xy:Bool) (xe:List En) (am:Option Addr) (cm:Nat) (hwi:-9223372036854775808≤xi∧xi≤9223372036854775807) (hno:m.role≠2∨xt≠m.term) :
    Calls Tryz.prog 68 #[.pointer (some ⟨b,0,none⟩),.agg #[.int .i64 xk,.int .i64 ((j:Int)+1),.int .i64 xd,.int .i64 xt,.int .i64 xi,.int .i64 xl,.int .i64 xc,.bool xy,.slice am xe.length cm]] w (RetR m [] b a w):=by
  have hal:=zC w (.cells #[.int .i64 xk,.int .i64 ((j:Int)+1),.int .i64 xd,.int .i64 xt,.int .i64 xi,.int .i64 xl,.int .i64 xc,.bool xy,.slice am xe.length cm] 78)
  have gX:=zG w (.cells #[.int .i64 xk,.int .i64 ((j:Int)+1),.int .i64 xd,.int .i64 xt,.int .i64 xi,.int .i64 xl,.int .i64 xc,.bool xy,.slice am xe.length cm] 78)
  have HA:=Lib.hid (h.below hal)
  have hnx:=h.new (Nat.le_refl w.heap.size)
  have S0:Step w b a (w.alloc (.cells #[.int .i64 xk,.int .i64 ((j:Int)+1),.int .i64 xd,.int .i64 xt,.int .i64 xi,.int .i64 xl,.int .i64 xc,.bool xy,.slice am xe.length cm] 78)) a:=.of_below hal
  obtain ⟨c0,c1,c2,c3,c4,c5,c6,c7,c8,c9,hlt⟩:=zAK (h.below hal).blk
  obtain ⟨x0,x1,x2,x3,x4,x5,x6,x7,x8⟩:=box9 gX
  have flt:=zB gX
  have n16:=hok.n16
  have hj0:(0:Int)≤(j:Int):=by omega
  have hj1:(j:Int)<(m.prog.length:Int):=by omega
  have hj2:(j:Int)+1≤16:=by omega
  have hwr0:IntKind.i64.wrap (j:Int)=(j:Int):=zS (by omega) (by omega)
  have hcase:(m.role != 2)=true∨((m.role != 2)=false∧(xt != m.term)=true):=by
    by_cases h1:m.role=2
    · right
      rcases hno with h3 | h3
      · exact (h3 h1).elim
      · exact ⟨by simp [h1],by simpa using h3⟩
    · left;simpa using h1
  clear hno
  rcases hcase with h1 | ⟨h1,h2⟩
  · go_enter Tryz.func68,Tryz.ntmps68
    go_wp2
    go_quiet (fail)
    go_wp2
    go_ret
    exact RetR.nil (HA.out.many _) (S0.many _)
  · go_enter Tryz.func68,Tryz.ntmps68
    go_wp2
    go_quiet (fail)
    go_wp2
    go_ret
    exact RetR.nil (HA.out.many _) (S0.many _)
set_option maxRecDepth 100000 in
set_option maxHeartbeats 6400000 in
theorem added_back (h:MAt w b a m) (hok:MbOk m) (xk xd xt xi xl xc:Int) (j:Nat) (hj:j<m.prog.length) (xe:List En) (am:Option Addr) (cm:Nat) (hwi:-9223372036854775808≤xi∧xi≤9223372036854775807) (hr:m.role=2) (ht:xt=m.term)  :
    Calls Tryz.prog 68 #[.pointer (some ⟨b,0,none⟩),.agg #[.int .i64 xk,.int .i64 ((j:Int)+1),.int .i64 xd,.int .i64 xt,.int .i64 xi,.int .i64 xl,.int .i64 xc,.bool false,.slice am xe.length cm]] w (RetR (m.back ⟨xk,(j:Int)+1,xd,xt,xi,xl,xc,false,xe⟩) [(m.back ⟨xk,(j:Int)+1,xd,xt,xi,xl,xc,false,xe⟩).addn ((j:Int)+1)] b a w):=by
  have hal:=zC w (.cells #[.int .i64 xk,.int .i64 ((j:Int)+1),.int .i64 xd,.int .i64 xt,.int .i64 xi,.int .i64 xl,.int .i64 xc,.bool false,.slice am xe.length cm] 78)
  have gX:=zG w (.cells #[.int .i64 xk,.int .i64 ((j:Int)+1),.int .i64 xd,.int .i64 xt,.int .i64 xi,.int .i64 xl,.int .i64 xc,.bool false,.slice am xe.length cm] 78)
  have HA:=Lib.hid (h.below hal)
  have hnx:=h.new (Nat.le_refl w.heap.size)
  have S0:Step w b a (w.alloc (.cells #[.int .i64 xk,.int .i64 ((j:Int)+1),.int .i64 xd,.int .i64 xt,.int .i64 xi,.int .i64 xl,.int .i64 xc,.bool false,.slice am xe.length cm] 78)) a:=.of_below hal
  obtain ⟨c0,c1,c2,c3,c4,c5,c6,c7,c8,c9,hlt⟩:=zAK (h.below hal).blk
  obtain ⟨x0,x1,x2,x3,x4,x5,x6,x7,x8⟩:=box9 gX
  have flt:=zB gX
  have n16:=hok.n16
  have hj0:(0:Int)≤(j:Int):=by omega
  have hj1:(j:Int)<(m.prog.length:Int):=by omega
  have hj2:(j:Int)+1≤16:=by omega
  have hwr0:IntKind.i64.wrap (j:Int)=(j:Int):=zS (by omega) (by omega)
  have h1:(m.role != 2)=false:=by simp [hr]
  have h2:(xt != m.term)=false:=by simp [ht]
  have hlive:=hok.live (by omega)
  clear hr ht
  have HBK:Hid (m.back ⟨xk,(j:Int)+1,xd,xt,xi,xl,xc,false,xe⟩=m.setPr ((j:Int)+1) ((m.prAt ((j:Int)+1)).1,max 1 (min ((m.prAt ((j:Int)+1)).2 - 2) xi+1))):=rfl
  have HOKB:=Lib.hid (hok.back ⟨xk,(j:Int)+1,xd,xt,xi,xl,xc,false,xe⟩)
  have HLB:Hid (j<(m.back ⟨xk,(j:Int)+1,xd,xt,xi,xl,xc,false,xe⟩).prog.length):=by rw [HBK.out];unfold Hid Mb.setPr;simpa using hj
  generalize m.back ⟨xk,(j:Int)+1,xd,xt,xi,xl,xc,false,xe⟩=mb at *
  have hpa:=hok.prAt ((j:Int)+1)
  obtain ⟨pv0,pv1⟩:=prV_at hj
  rw [← prAt_at hj] at pv0 pv1
  have HP0:=Lib.hid pv0
  have HP1:=Lib.hid pv1
  clear pv0 pv1
  go_enter Tryz.func68,Tryz.ntmps68
  go_wp2
  go_quiet (fail)
  have H1:=HA.out.many nq
  have g1:=zI gX nq
  have S1:=S0.many nq
  clear c0 c1 c2 c3 c4 c5 c6 c7 c8 c9 hlt x0 x1 x2 x3 x4 x5 x6 x7 x8 flt HA S0 gX hal
  generalize (w.alloc (.cells #[.int .i64 xk,.int .i64 ((j:Int)+1),.int .i64 xd,.int .i64 xt,.int .i64 xi,.int .i64 xl,.int .i64 xc,.bool false,.slice am xe.length cm] 78)).drewN nq=W1 at *
  obtain ⟨c0,c1,c2,c3,c4,c5,c6,c7,c8,c9,hlt⟩:=zAK H1.blk
  obtain ⟨x0,x1,x2,x3,x4,x5,x6,x7,x8⟩:=box9 g1
  have flt:=zB g1
  go_wp2
  go_quiet (fail)
  have H2:=H1.many nq
  have g2:=zI g1 nq
  have S2:=S1.many nq
  clear c0 c1 c2 c3 c4 c5 c6 c7 c8 c9 hlt x0 x1 x2 x3 x4 x5 x6 x7 x8 flt H1 S1 g1 hwr0
  generalize W1.drewN nq=W2 at *
  obtain ⟨c0,c1,c2,c3,c4,c5,c6,c7,c8,c9,hlt⟩:=zAK H2.blk
  obtain ⟨x0,x1,x2,x3,x4,x5,x6,x7,x8⟩:=box9 g2
  have flt:=zB g2
  have o0:=zAX H2.prog HP0.out
  have o1:=zAX H2.prog HP1.out
  have fo0:=zAP H2.prog (j * 2)
  have fo1:=zAP H2.prog (j * 2+1)
  have olt:=(zAU H2.prog a.oa (by simp [zU])).2
  have hsn:=fun x=>H2.drew.setNext j hj x
  have HSN:=Lib.hid hsn
  clear hsn
  generalize m.prAt ((j:Int)+1)=P at *
  obtain ⟨P1,P2⟩:=P
  simp only at hpa HBK HP0 HP1 HSN o0 o1
  obtain ⟨hp1,hp2,hp3,hp4⟩:=hpa
  obtain ⟨hwi1,hwi2⟩:=hwi
  have hwr1:IntKind.i64.wrap (P2 - 2)=P2 - 2:=zS (by omega) (by omega)
  have hwr2:IntKind.i64.wrap (min (P2 - 2) xi+1)=min (P2 - 2) xi+1:=zS (by omega) (by omega)
  go_wp2
  go_still_tail 13,(by kernel_rfl)
  show wpList _ _ _ _ _ W2.drew
  have H3:=HSN.out (max 1 (min (P2 - 2) xi+1))
  rw [← HBK.out] at H3
  have S3:=(S2.drew).storeO (j * 2+1) (.int .i64 (max 1 (min (P2 - 2) xi+1)))
  have g3:(W2.drew.setCell ⟨a.oa,j * 2+1,none⟩ (.int .i64 (max 1 (min (P2 - 2) xi+1)))).heap[w.heap.size]?=_:=zL (zM g2) (fun e=>hnx (e ▸ foot_o b a)) _
  have HAD:=Lib.hid (addn_at H3 HOKB.out j HLB.out)
  have hne:w.heap.size≠a.oa:=fun e=>hnx (e ▸ foot_o b a)
  go_wp2_with (go_at_call 61;refine HAD.out.mono ?_;rintro e w4 ⟨a4,c4',rfl,own4,hb4⟩)
  go_ret
  exact RetR.oneB (mb.addn ((j:Int)+1)) (H3.below hb4) (S3.below hb4) S3.chg.size H3.lt own4 hb4.size rfl
set_option maxRecDepth 100000 in
set_option maxHeartbeats 6400000 in
theorem added_neg (h:MAt w b a m) (hok:MbOk m) (xk xd xt xi xl xc:Int) (j:Nat) (hj:j<m.prog.length) (xe:List En) (am:Option Addr) (cm:Nat) (hwi:-9223372036854775808≤xi∧xi≤9223372036854775807) (hr:m.role=2) (ht:xt=m.term) (hi:xi<0)  :
    Calls Tryz.prog 68 #[.pointer (some ⟨b,0,none⟩),.agg #[.int .i64 xk,.int .i64 ((j:Int)+1),.int .i64 xd,.int .i64 xt,.int .i64 xi,.int .i64 xl,.int .i64 xc,.bool true,.slice am xe.length cm]] w (RetR m [] b a w):=by
  have hal:=zC w (.cells #[.int .i64 xk,.int .i64 ((j:Int)+1),.int .i64 xd,.int .i64 xt,.int .i64 xi,.int .i64 xl,.int .i64 xc,.bool true,.slice am xe.length cm] 78)
  have gX:=zG w (.cells #[.int .i64 xk,.int .i64 ((j:Int)+1),.int .i64 xd,.int .i64 xt,.int .i64 xi,.int .i64 xl,.int .i64 xc,.bool true,.slice am xe.length cm] 78)
  have HA:=Lib.hid (h.below hal)
  have hnx:=h.new (Nat.le_refl w.heap.size)
  have S0:Step w b a (w.alloc (.cells #[.int .i64 xk,.int .i64 ((j:Int)+1),.int .i64 xd,.int .i64 xt,.int .i64 xi,.int .i64 xl,.int .i64 xc,.bool true,.slice am xe.length cm] 78)) a:=.of_below hal
  obtain ⟨c0,c1,c2,c3,c4,c5,c6,c7,c8,c9,hlt⟩:=zAK (h.below hal).blk
  obtain ⟨x0,x1,x2,x3,x4,x5,x6,x7,x8⟩:=box9 gX
  have flt:=zB gX
  have n16:=hok.n16
  have hj0:(0:Int)≤(j:Int):=by omega
  have hj1:(j:Int)<(m.prog.length:Int):=by omega
  have hj2:(j:Int)+1≤16:=by omega
  have hwr0:IntKind.i64.wrap (j:Int)=(j:Int):=zS (by omega) (by omega)
  have h1:(m.role != 2)=false:=by simp [hr]
  have h2:(xt != m.term)=false:=by simp [ht]
  have hlive:=hok.live (by omega)
  clear hr ht
  have hpa:=hok.prAt ((j:Int)+1)
  obtain ⟨pv0,pv1⟩:=prV_at hj
  rw [← prAt_at hj] at pv0 pv1
  have HP0:=Lib.hid pv0
  have HP1:=Lib.hid pv1
  clear pv0 pv1
  go_enter Tryz.func68,Tryz.ntmps68
  go_wp2
  go_quiet (fail)
  have H1:=HA.out.many nq
  have g1:=zI gX nq
  have S1:=S0.many nq
  clear c0 c1 c2 c3 c4 c5 c6 c7 c8 c9 hlt x0 x1 x2 x3 x4 x5 x6 x7 x8 flt HA S0 gX hal
  generalize (w.alloc (.cells #[.int .i64 xk,.int .i64 ((j:Int)+1),.int .i64 xd,.int .i64 xt,.int .i64 xi,.int .i64 xl,.int .i64 xc,.bool true,.slice am xe.length cm] 78)).drewN nq=W1 at *
  obtain ⟨c0,c1,c2,c3,c4,c5,c6,c7,c8,c9,hlt⟩:=zAK H1.blk
  obtain ⟨x0,x1,x2,x3,x4,x5,x6,x7,x8⟩:=box9 g1
  have flt:=zB g1
  go_wp2
  go_quiet (fail)
  have H2:=H1.many nq
  have g2:=zI g1 nq
  have S2:=S1.many nq
  clear c0 c1 c2 c3 c4 c5 c6 c7 c8 c9 hlt x0 x1 x2 x3 x4 x5 x6 x7 x8 flt H1 S1 g1 hwr0
  generalize W1.drewN nq=W2 at *
  obtain ⟨c0,c1,c2,c3,c4,c5,c6,c7,c8,c9,hlt⟩:=zAK H2.blk
  obtain ⟨x0,x1,x2,x3,x4,x5,x6,x7,x8⟩:=box9 g2
  have flt:=zB g2
  have o0:=zAX H2.prog HP0.out
  have o1:=zAX H2.prog HP1.out
  have fo0:=zAP H2.prog (j * 2)
  have fo1:=zAP H2.prog (j * 2+1)
  have olt:=(zAU H2.prog a.oa (by simp [zU])).2
  go_wp2
  go_quiet (fail)
  go_wp2
  go_ret
  exact RetR.nil (H2.many _) (S2.many _)
set_option maxRecDepth 100000 in
set_option maxHeartbeats 6400000 in
theorem added_far (h:MAt w b a m) (hok:MbOk m) (xk xd xt xi xl xc:Int) (j:Nat) (hj:j<m.prog.length) (xe:List En) (am:Option Addr) (cm:Nat) (hwi:-9223372036854775808≤xi∧xi≤9223372036854775807) (hr:m.role=2) (ht:xt=m.term) (hi0:0≤xi) (hi:(lastF 0 0 m.log).1<xi)  :
    Calls Tryz.prog 68 #[.pointer (some ⟨b,0,none⟩),.agg #[.int .i64 xk,.int .i64 ((j:Int)+1),.int .i64 xd,.int .i64 xt,.int .i64 xi,.int .i64 xl,.int .i64 xc,.bool true,.slice am xe.length cm]] w (RetR m [] b a w):=by
  have hal:=zC w (.cells #[.int .i64 xk,.int .i64 ((j:Int)+1),.int .i64 xd,.int .i64 xt,.int .i64 xi,.int .i64 xl,.int .i64 xc,.bool true,.slice am xe.length cm] 78)
  have gX:=zG w (.cells #[.int .i64 xk,.int .i64 ((j:Int)+1),.int .i64 xd,.int .i64 xt,.int .i64 xi,.int .i64 xl,.int .i64 xc,.bool true,.slice am xe.length cm] 78)
  have HA:=Lib.hid (h.below hal)
  have hnx:=h.new (Nat.le_refl w.heap.size)
  have S0:Step w b a (w.alloc (.cells #[.int .i64 xk,.int .i64 ((j:Int)+1),.int .i64 xd,.int .i64 xt,.int .i64 xi,.int .i64 xl,.int .i64 xc,.bool true,.slice am xe.length cm] 78)) a:=.of_below hal
  obtain ⟨c0,c1,c2,c3,c4,c5,c6,c7,c8,c9,hlt⟩:=zAK (h.below hal).blk
  obtain ⟨x0,x1,x2,x3,x4,x5,x6,x7,x8⟩:=box9 gX
  have flt:=zB gX
  have n16:=hok.n16
  have hj0:(0:Int)≤(j:Int):=by omega
  have hj1:(j:Int)<(m.prog.length:Int):=by omega
  have hj2:(j:Int)+1≤16:=by omega
  have hwr0:IntKind.i64.wrap (j:Int)=(j:Int):=zS (by omega) (by omega)
  have h1:(m.role != 2)=false:=by simp [hr]
  have h2:(xt != m.term)=false:=by simp [ht]
  have hlive:=hok.live (by omega)
  clear hr ht
  have hlastH:=fun W (hW:MAt W b a m)=>zCM hW
  have HLA:=Lib.hid hlastH
  clear hlastH
  have hX2:0≤(lastF 0 0 m.log).1∧(lastF 0 0 m.log).1≤64:=by rw [hok.lastF];have:=hok.len64;simp only;omega
  obtain ⟨hX0,hX1⟩:=hX2
  generalize (lastF 0 0 m.log).1=X at *
  have hpa:=hok.prAt ((j:Int)+1)
  obtain ⟨pv0,pv1⟩:=prV_at hj
  rw [← prAt_at hj] at pv0 pv1
  have HP0:=Lib.hid pv0
  have HP1:=Lib.hid pv1
  clear pv0 pv1
  go_enter Tryz.func68,Tryz.ntmps68
  go_wp2
  go_quiet (fail)
  have H1:=HA.out.many nq
  have g1:=zI gX nq
  have S1:=S0.many nq
  clear c0 c1 c2 c3 c4 c5 c6 c7 c8 c9 hlt x0 x1 x2 x3 x4 x5 x6 x7 x8 flt HA S0 gX hal
  generalize (w.alloc (.cells #[.int .i64 xk,.int .i64 ((j:Int)+1),.int .i64 xd,.int .i64 xt,.int .i64 xi,.int .i64 xl,.int .i64 xc,.bool true,.slice am xe.length cm] 78)).drewN nq=W1 at *
  obtain ⟨c0,c1,c2,c3,c4,c5,c6,c7,c8,c9,hlt⟩:=zAK H1.blk
  obtain ⟨x0,x1,x2,x3,x4,x5,x6,x7,x8⟩:=box9 g1
  have flt:=zB g1
  go_wp2
  go_quiet (fail)
  have H2:=H1.many nq
  have g2:=zI g1 nq
  have S2:=S1.many nq
  clear c0 c1 c2 c3 c4 c5 c6 c7 c8 c9 hlt x0 x1 x2 x3 x4 x5 x6 x7 x8 flt H1 S1 g1 hwr0
  generalize W1.drewN nq=W2 at *
  obtain ⟨c0,c1,c2,c3,c4,c5,c6,c7,c8,c9,hlt⟩:=zAK H2.blk
  obtain ⟨x0,x1,x2,x3,x4,x5,x6,x7,x8⟩:=box9 g2
  have flt:=zB g2
  have o0:=zAX H2.prog HP0.out
  have o1:=zAX H2.prog HP1.out
  have fo0:=zAP H2.prog (j * 2)
  have fo1:=zAP H2.prog (j * 2+1)
  have olt:=(zAU H2.prog a.oa (by simp [zU])).2
  have HLA2:=Lib.hid (HLA.out _ H2.drew)
  have hdn:decide (xi<0)=false:=by simpa using hi0
  go_wp2
  go_region_law (first
    | (go_simp;go_at_call 93;refine HLA2.out.mono ?_;rintro e w3 ⟨rfl,hb3⟩;have H3:=H2.drew.below hb3;have g3:=zA hb3 (zM g2);obtain ⟨y0,y1,y2,y3,y4,y5,y6,y7,y8⟩:=box9 g3;have glt:=zB g3;(try go_simp)))
  all_goals go_wp2
  all_goals go_ret
  all_goals exact RetR.nil H3 ((S2.drew).below hb3)
set_option maxRecDepth 100000 in
set_option maxHeartbeats 6400000 in
theorem added_done (h:MAt w b a m) (hok:MbOk m) (xk xd xt xi xl xc:Int) (j:Nat) (hj:j<m.prog.length) (xe:List En) (am:Option Addr) (cm:Nat) (hwi:-9223372036854775808≤xi∧xi≤9223372036854775807) (hr:m.role=2) (ht:xt=m.term) (hi0:0≤xi) (hi:xi≤(lastF 0 0 m.log).1) (hd:(lastF 0 0 m.log).1<max (m.prAt ((j:Int)+1)).1 xi+1)  :
    Calls Tryz.prog 68 #[.pointer (some ⟨b,0,none⟩),.agg #[.int .i64 xk,.int .i64 ((j:Int)+1),.int .i64 xd,.int .i64 xt,.int .i64 xi,.int .i64 xl,.int .i64 xc,.bool true,.slice am xe.length cm]] w (RetR (m.matched ⟨xk,(j:Int)+1,xd,xt,xi,xl,xc,true,xe⟩) [] b a w):=by
  have hal:=zC w (.cells #[.int .i64 xk,.int .i64 ((j:Int)+1),.int .i64 xd,.int .i64 xt,.int .i64 xi,.int .i64 xl,.int .i64 xc,.bool true,.slice am xe.length cm] 78)
  have gX:=zG w (.cells #[.int .i64 xk,.int .i64 ((j:Int)+1),.int .i64 xd,.int .i64 xt,.int .i64 xi,.int .i64 xl,.int .i64 xc,.bool true,.slice am xe.length cm] 78)
  have HA:=Lib.hid (h.below hal)
  have hnx:=h.new (Nat.le_refl w.heap.size)
  have S0:Step w b a (w.alloc (.cells #[.int .i64 xk,.int .i64 ((j:Int)+1),.int .i64 xd,.int .i64 xt,.int .i64 xi,.int .i64 xl,.int .i64 xc,.bool true,.slice am xe.length cm] 78)) a:=.of_below hal
  obtain ⟨c0,c1,c2,c3,c4,c5,c6,c7,c8,c9,hlt⟩:=zAK (h.below hal).blk
  obtain ⟨x0,x1,x2,x3,x4,x5,x6,x7,x8⟩:=box9 gX
  have flt:=zB gX
  have n16:=hok.n16
  have hj0:(0:Int)≤(j:Int):=by omega
  have hj1:(j:Int)<(m.prog.length:Int):=by omega
  have hj2:(j:Int)+1≤16:=by omega
  have hwr0:IntKind.i64.wrap (j:Int)=(j:Int):=zS (by omega) (by omega)
  have h1:(m.role != 2)=false:=by simp [hr]
  have h2:(xt != m.term)=false:=by simp [ht]
  have hlive:=hok.live (by omega)
  clear hr ht
  have hlastH:=fun W (hW:MAt W b a m)=>zCM hW
  have HLA:=Lib.hid hlastH
  clear hlastH
  have hX2:0≤(lastF 0 0 m.log).1∧(lastF 0 0 m.log).1≤64:=by rw [hok.lastF];have:=hok.len64;simp only;omega
  have HMT:Hid (m.matched ⟨xk,(j:Int)+1,xd,xt,xi,xl,xc,true,xe⟩=(m.setPr ((j:Int)+1) (max (m.prAt ((j:Int)+1)).1 xi,max (m.prAt ((j:Int)+1)).1 xi+1)).settle):=rfl
  have hlg:(m.matched ⟨xk,(j:Int)+1,xd,xt,xi,xl,xc,true,xe⟩).log=m.log:=rfl
  have HOKM:=Lib.hid (hok.matched ⟨xk,(j:Int)+1,xd,xt,xi,xl,xc,true,xe⟩ (by simp only;omega))
  have HPR:Hid ((m.matched ⟨xk,(j:Int)+1,xd,xt,xi,xl,xc,true,xe⟩).prAt ((j:Int)+1)=(max (m.prAt ((j:Int)+1)).1 xi,max (m.prAt ((j:Int)+1)).1 xi+1)):=setPr_at hj _
  have HOKS:=Lib.hid (hok.setPr ((j:Int)+1) (max (m.prAt ((j:Int)+1)).1 xi,max (m.prAt ((j:Int)+1)).1 xi+1) (by have:=hok.prAt ((j:Int)+1);simp only;omega))
  have HLM:Hid (j<(m.matched ⟨xk,(j:Int)+1,xd,xt,xi,xl,xc,true,xe⟩).prog.length):=by unfold Hid Mb.matched Mb.settle Mb.setPr;simpa using hj
  generalize m.matched ⟨xk,(j:Int)+1,xd,xt,xi,xl,xc,true,xe⟩=mm at *
  have HLOG:=Lib.hid hlg
  clear hlg
  obtain ⟨hX0,hX1⟩:=hX2
  generalize hXd:(lastF 0 0 m.log).1=X at *
  replace hXd:=Lib.hid hXd
  have hpa:=hok.prAt ((j:Int)+1)
  obtain ⟨pv0,pv1⟩:=prV_at hj
  rw [← prAt_at hj] at pv0 pv1
  have HP0:=Lib.hid pv0
  have HP1:=Lib.hid pv1
  clear pv0 pv1
  go_enter Tryz.func68,Tryz.ntmps68
  go_wp2
  go_quiet (fail)
  have H1:=HA.out.many nq
  have g1:=zI gX nq
  have S1:=S0.many nq
  clear c0 c1 c2 c3 c4 c5 c6 c7 c8 c9 hlt x0 x1 x2 x3 x4 x5 x6 x7 x8 flt HA S0 gX hal
  generalize (w.alloc (.cells #[.int .i64 xk,.int .i64 ((j:Int)+1),.int .i64 xd,.int .i64 xt,.int .i64 xi,.int .i64 xl,.int .i64 xc,.bool true,.slice am xe.length cm] 78)).drewN nq=W1 at *
  obtain ⟨c0,c1,c2,c3,c4,c5,c6,c7,c8,c9,hlt⟩:=zAK H1.blk
  obtain ⟨x0,x1,x2,x3,x4,x5,x6,x7,x8⟩:=box9 g1
  have flt:=zB g1
  go_wp2
  go_quiet (fail)
  have H2:=H1.many nq
  have g2:=zI g1 nq
  have S2:=S1.many nq
  clear c0 c1 c2 c3 c4 c5 c6 c7 c8 c9 hlt x0 x1 x2 x3 x4 x5 x6 x7 x8 flt H1 S1 g1 hwr0
  generalize W1.drewN nq=W2 at *
  obtain ⟨c0,c1,c2,c3,c4,c5,c6,c7,c8,c9,hlt⟩:=zAK H2.blk
  obtain ⟨x0,x1,x2,x3,x4,x5,x6,x7,x8⟩:=box9 g2
  have flt:=zB g2
  have o0:=zAX H2.prog HP0.out
  have o1:=zAX H2.prog HP1.out
  have fo0:=zAP H2.prog (j * 2)
  have fo1:=zAP H2.prog (j * 2+1)
  have olt:=(zAU H2.prog a.oa (by simp [zU])).2
  have HLA2:=Lib.hid (HLA.out _ H2.drew)
  have hdn:decide (xi<0)=false:=by simpa using hi0
  have hdf:decide (X<xi)=false:=by simpa using hi
  have hsn:=fun x=>H2.setPr j hj x
  clear hsn
  go_wp2
  go_cut [5,73] (fun p q wx=>p=.pointer (some ⟨a.oa,j * 2,none⟩)∧q=.bool false∧MAt wx b a m∧Step w b a wx a∧wx.heap[w.heap.size]?=some (.cells #[.int .i64 xk,.int .i64 ((j:Int)+1),.int .i64 xd,.int .i64 xt,.int .i64 xi,.int .i64 xl,.int .i64 xc,.bool true,.slice am xe.length cm] 78))
  case first =>
    go_region_law (first
      | (go_simp;go_at_call 93;refine HLA2.out.mono ?_;rintro e w3 ⟨rfl,hb3⟩;have H3:=H2.drew.below hb3;have g3:=zA hb3 (zM g2);obtain ⟨y0,y1,y2,y3,y4,y5,y6,y7,y8⟩:=box9 g3;have glt:=zB g3;(try go_simp)))
    all_goals (go_wp2_with fail;go_meet)
    all_goals exact ⟨rfl,rfl,H3,(S2.drew).below hb3,g3⟩
  case rest =>
    obtain ⟨rfl,rfl,H4,S4,g4⟩:=hcut
    clear c0 c1 c2 c3 c4 c5 c6 c7 c8 c9 hlt x0 x1 x2 x3 x4 x5 x6 x7 x8 flt o0 o1 fo0 fo1 olt
    obtain ⟨x0,x1,x2,x3,x4,x5,x6,x7,x8⟩:=box9 g4
    have flt:=zB g4
    have o0:=zAX H4.prog HP0.out
    have o1:=zAX H4.prog HP1.out
    have fo0:=zAP H4.prog (j * 2)
    have fo1:=zAP H4.prog (j * 2+1)
    have olt:=(zAU H4.prog a.oa (by simp [zU])).2
    have hne:w.heap.size≠a.oa:=fun e=>hnx (e ▸ foot_o b a)
    have HSN:=Lib.hid (H4.drew.setPr j hj (max (m.prAt ((j:Int)+1)).1 xi,max (m.prAt ((j:Int)+1)).1 xi+1))
    generalize m.prAt ((j:Int)+1)=P at *
    obtain ⟨P1,P2⟩:=P
    simp only at hpa HP0 HP1 HSN o0 o1 HMT HPR HOKS
    obtain ⟨hp1,hp2,hp3,hp4⟩:=hpa
    have hwr2:IntKind.i64.wrap (max P1 xi+1)=max P1 xi+1:=zS (by omega) (by omega)
    have hmx0:0≤max P1 xi:=by omega
    have hmx1:max P1 xi≤64:=by omega
    go_wp2
    go_still_tail 10,(by kernel_rfl)
    show wpList _ _ _ _ _ wc.drew
    have HSET:=Lib.hid (settle_same HSN.out HOKS.out)
    rw [← HMT.out] at HSET
    have S5:=((S4.drew).storeO (j * 2) (.int .i64 (max P1 xi))).storeO (j * 2+1) (.int .i64 (max P1 xi+1))
    have g5:((wc.drew.setCell ⟨a.oa,j * 2,none⟩ (.int .i64 (max P1 xi))).setCell ⟨a.oa,j * 2+1,none⟩ (.int .i64 (max P1 xi+1))).heap[w.heap.size]?=_:=zL (zL (zM g4) hne _) hne _
    go_wp2_with (go_at_call 95;refine HSET.out.mono ?_;rintro e w6 ⟨rfl,H6,S6⟩)
    have S7:=S5.trans S6
    have g6:=S6.keep g5 hnx
    clear x0 x1 x2 x3 x4 x5 x6 x7 x8 flt o0 o1 fo0 fo1 olt hwr2
    obtain ⟨x0,x1,x2,x3,x4,x5,x6,x7,x8⟩:=box9 g6
    have flt:=zB g6
    have o1:=zAX H6.prog (by have:=(prV_at HLM.out).2;rw [← prAt_at HLM.out,HPR.out] at this;exact this)
    simp only at o1
    have HLA6:Hid (Calls Tryz.prog 93 #[.pointer (some ⟨b,0,none⟩)] w6.drew fun e w'=>e=.returned (.int .i64 X)∧Below w6.drew.heap.size w6.drew w'):=by have:=zCM H6.drew;rw [HLOG.out] at this;rwa [hXd.out] at this
    go_region_law (first
      | (go_simp;go_at_call 93;refine HLA6.out.mono ?_;rintro e w7 ⟨rfl,hb7⟩;have H7:=H6.drew.below hb7;have g7:=zA hb7 (zM g6);obtain ⟨y0,y1,y2,y3,y4,y5,y6,y7,y8⟩:=box9 g7;have glt:=zB g7;have o7:=zAX H7.prog (by have:=(prV_at HLM.out).2;rw [← prAt_at HLM.out,HPR.out] at this;exact this);simp only at o7;(try go_simp)))
    all_goals go_wp2
    all_goals go_ret
    all_goals exact RetR.nil H7 ((S7.drew).below hb7)
set_option maxRecDepth 100000 in
set_option maxHeartbeats 6400000 in
theorem added_more (h:MAt w b a m) (hok:MbOk m) (xk xd xt xi xl xc:Int) (j:Nat) (hj:j<m.prog.length) (xe:List En) (am:Option Addr) (cm:Nat) (hwi:-9223372036854775808≤xi∧xi≤9223372036854775807) (hr:m.role=2) (ht:xt=m.term) (hi0:0≤xi) (hi:xi≤(lastF 0 0 m.log).1) (hd:max (m.prAt ((j:Int)+1)).1 xi+1≤(lastF 0 0 m.log).1)  :
    Calls Tryz.prog 68 #[.pointer (some ⟨b,0,none⟩),.agg #[.int .i64 xk,.int .i64 ((j:Int)+1),.int .i64 xd,.int .i64 xt,.int .i64 xi,.int .i64 xl,.int .i64 xc,.bool true,.slice am xe.length cm]] w (RetR (m.matched ⟨xk,(j:Int)+1,xd,xt,xi,xl,xc,true,xe⟩) [(m.matched ⟨xk,(j:Int)+1,xd,xt,xi,xl,xc,true,xe⟩).addn ((j:Int)+1)] b a w):=by
  have hal:=zC w (.cells #[.int .i64 xk,.int .i64 ((j:Int)+1),.int .i64 xd,.int .i64 xt,.int .i64 xi,.int .i64 xl,.int .i64 xc,.bool true,.slice am xe.length cm] 78)
  have gX:=zG w (.cells #[.int .i64 xk,.int .i64 ((j:Int)+1),.int .i64 xd,.int .i64 xt,.int .i64 xi,.int .i64 xl,.int .i64 xc,.bool true,.slice am xe.length cm] 78)
  have HA:=Lib.hid (h.below hal)
  have hnx:=h.new (Nat.le_refl w.heap.size)
  have S0:Step w b a (w.alloc (.cells #[.int .i64 xk,.int .i64 ((j:Int)+1),.int .i64 xd,.int .i64 xt,.int .i64 xi,.int .i64 xl,.int .i64 xc,.bool true,.slice am xe.length cm] 78)) a:=.of_below hal
  obtain ⟨c0,c1,c2,c3,c4,c5,c6,c7,c8,c9,hlt⟩:=zAK (h.below hal).blk
  obtain ⟨x0,x1,x2,x3,x4,x5,x6,x7,x8⟩:=box9 gX
  have flt:=zB gX
  have n16:=hok.n16
  have hj0:(0:Int)≤(j:Int):=by omega
  have hj1:(j:Int)<(m.prog.length:Int):=by omega
  have hj2:(j:Int)+1≤16:=by omega
  have hwr0:IntKind.i64.wrap (j:Int)=(j:Int):=zS (by omega) (by omega)
  have h1:(m.role != 2)=false:=by simp [hr]
  have h2:(xt != m.term)=false:=by simp [ht]
  have hlive:=hok.live (by omega)
  clear hr ht
  have hlastH:=fun W (hW:MAt W b a m)=>zCM hW
  have HLA:=Lib.hid hlastH
  clear hlastH
  have hX2:0≤(lastF 0 0 m.log).1∧(lastF 0 0 m.log).1≤64:=by rw [hok.lastF];have:=hok.len64;simp only;omega
  have HMT:Hid (m.matched ⟨xk,(j:Int)+1,xd,xt,xi,xl,xc,true,xe⟩=(m.setPr ((j:Int)+1) (max (m.prAt ((j:Int)+1)).1 xi,max (m.prAt ((j:Int)+1)).1 xi+1)).settle):=rfl
  have hlg:(m.matched ⟨xk,(j:Int)+1,xd,xt,xi,xl,xc,true,xe⟩).log=m.log:=rfl
  have HOKM:=Lib.hid (hok.matched ⟨xk,(j:Int)+1,xd,xt,xi,xl,xc,true,xe⟩ (by simp only;omega))
  have HPR:Hid ((m.matched ⟨xk,(j:Int)+1,xd,xt,xi,xl,xc,true,xe⟩).prAt ((j:Int)+1)=(max (m.prAt ((j:Int)+1)).1 xi,max (m.prAt ((j:Int)+1)).1 xi+1)):=setPr_at hj _
  have HOKS:=Lib.hid (hok.setPr ((j:Int)+1) (max (m.prAt ((j:Int)+1)).1 xi,max (m.prAt ((j:Int)+1)).1 xi+1) (by have:=hok.prAt ((j:Int)+1);simp only;omega))
  have HLM:Hid (j<(m.matched ⟨xk,(j:Int)+1,xd,xt,xi,xl,xc,true,xe⟩).prog.length):=by unfold Hid Mb.matched Mb.settle Mb.setPr;simpa using hj
  generalize m.matched ⟨xk,(j:Int)+1,xd,xt,xi,xl,xc,true,xe⟩=mm at *
  have HLOG:=Lib.hid hlg
  clear hlg
  obtain ⟨hX0,hX1⟩:=hX2
  generalize hXd:(lastF 0 0 m.log).1=X at *
  replace hXd:=Lib.hid hXd
  have hpa:=hok.prAt ((j:Int)+1)
  obtain ⟨pv0,pv1⟩:=prV_at hj
  rw [← prAt_at hj] at pv0 pv1
  have HP0:=Lib.hid pv0
  have HP1:=Lib.hid pv1
  clear pv0 pv1
  go_enter Tryz.func68,Tryz.ntmps68
  go_wp2
  go_quiet (fail)
  have H1:=HA.out.many nq
  have g1:=zI gX nq
  have S1:=S0.many nq
  clear c0 c1 c2 c3 c4 c5 c6 c7 c8 c9 hlt x0 x1 x2 x3 x4 x5 x6 x7 x8 flt HA S0 gX hal
  generalize (w.alloc (.cells #[.int .i64 xk,.int .i64 ((j:Int)+1),.int .i64 xd,.int .i64 xt,.int .i64 xi,.int .i64 xl,.int .i64 xc,.bool true,.slice am xe.length cm] 78)).drewN nq=W1 at *
  obtain ⟨c0,c1,c2,c3,c4,c5,c6,c7,c8,c9,hlt⟩:=zAK H1.blk
  obtain ⟨x0,x1,x2,x3,x4,x5,x6,x7,x8⟩:=box9 g1
  have flt:=zB g1
  go_wp2
  go_quiet (fail)
  have H2:=H1.many nq
  have g2:=zI g1 nq
  have S2:=S1.many nq
  clear c0 c1 c2 c3 c4 c5 c6 c7 c8 c9 hlt x0 x1 x2 x3 x4 x5 x6 x7 x8 flt H1 S1 g1 hwr0
  generalize W1.drewN nq=W2 at *
  obtain ⟨c0,c1,c2,c3,c4,c5,c6,c7,c8,c9,hlt⟩:=zAK H2.blk
  obtain ⟨x0,x1,x2,x3,x4,x5,x6,x7,x8⟩:=box9 g2
  have flt:=zB g2
  have o0:=zAX H2.prog HP0.out
  have o1:=zAX H2.prog HP1.out
  have fo0:=zAP H2.prog (j * 2)
  have fo1:=zAP H2.prog (j * 2+1)
  have olt:=(zAU H2.prog a.oa (by simp [zU])).2
  have HLA2:=Lib.hid (HLA.out _ H2.drew)
  have hdn:decide (xi<0)=false:=by simpa using hi0
  have hdf:decide (X<xi)=false:=by simpa using hi
  have hsn:=fun x=>H2.setPr j hj x
  clear hsn
  go_wp2
  go_cut [5,73] (fun p q wx=>p=.pointer (some ⟨a.oa,j * 2,none⟩)∧q=.bool false∧MAt wx b a m∧Step w b a wx a∧wx.heap[w.heap.size]?=some (.cells #[.int .i64 xk,.int .i64 ((j:Int)+1),.int .i64 xd,.int .i64 xt,.int .i64 xi,.int .i64 xl,.int .i64 xc,.bool true,.slice am xe.length cm] 78))
  case first =>
    go_region_law (first
      | (go_simp;go_at_call 93;refine HLA2.out.mono ?_;rintro e w3 ⟨rfl,hb3⟩;have H3:=H2.drew.below hb3;have g3:=zA hb3 (zM g2);obtain ⟨y0,y1,y2,y3,y4,y5,y6,y7,y8⟩:=box9 g3;have glt:=zB g3;(try go_simp)))
    all_goals (go_wp2_with fail;go_meet)
    all_goals exact ⟨rfl,rfl,H3,(S2.drew).below hb3,g3⟩
  case rest =>
    obtain ⟨rfl,rfl,H4,S4,g4⟩:=hcut
    clear c0 c1 c2 c3 c4 c5 c6 c7 c8 c9 hlt x0 x1 x2 x3 x4 x5 x6 x7 x8 flt o0 o1 fo0 fo1 olt
    obtain ⟨x0,x1,x2,x3,x4,x5,x6,x7,x8⟩:=box9 g4
    have flt:=zB g4
    have o0:=zAX H4.prog HP0.out
    have o1:=zAX H4.prog HP1.out
    have fo0:=zAP H4.prog (j * 2)
    have fo1:=zAP H4.prog (j * 2+1)
    have olt:=(zAU H4.prog a.oa (by simp [zU])).2
    have hne:w.heap.size≠a.oa:=fun e=>hnx (e ▸ foot_o b a)
    have HSN:=Lib.hid (H4.drew.setPr j hj (max (m.prAt ((j:Int)+1)).1 xi,max (m.prAt ((j:Int)+1)).1 xi+1))
    generalize m.prAt ((j:Int)+1)=P at *
    obtain ⟨P1,P2⟩:=P
    simp only at hpa HP0 HP1 HSN o0 o1 HMT HPR HOKS
    obtain ⟨hp1,hp2,hp3,hp4⟩:=hpa
    have hwr2:IntKind.i64.wrap (max P1 xi+1)=max P1 xi+1:=zS (by omega) (by omega)
    have hmx0:0≤max P1 xi:=by omega
    have hmx1:max P1 xi≤64:=by omega
    go_wp2
    go_still_tail 10,(by kernel_rfl)
    show wpList _ _ _ _ _ wc.drew
    have HSET:=Lib.hid (settle_same HSN.out HOKS.out)
    rw [← HMT.out] at HSET
    have S5:=((S4.drew).storeO (j * 2) (.int .i64 (max P1 xi))).storeO (j * 2+1) (.int .i64 (max P1 xi+1))
    have g5:((wc.drew.setCell ⟨a.oa,j * 2,none⟩ (.int .i64 (max P1 xi))).setCell ⟨a.oa,j * 2+1,none⟩ (.int .i64 (max P1 xi+1))).heap[w.heap.size]?=_:=zL (zL (zM g4) hne _) hne _
    go_wp2_with (go_at_call 95;refine HSET.out.mono ?_;rintro e w6 ⟨rfl,H6,S6⟩)
    have S7:=S5.trans S6
    have g6:=S6.keep g5 hnx
    clear x0 x1 x2 x3 x4 x5 x6 x7 x8 flt o0 o1 fo0 fo1 olt hwr2
    obtain ⟨x0,x1,x2,x3,x4,x5,x6,x7,x8⟩:=box9 g6
    have flt:=zB g6
    have o1:=zAX H6.prog (by have:=(prV_at HLM.out).2;rw [← prAt_at HLM.out,HPR.out] at this;exact this)
    simp only at o1
    have HLA6:Hid (Calls Tryz.prog 93 #[.pointer (some ⟨b,0,none⟩)] w6.drew fun e w'=>e=.returned (.int .i64 X)∧Below w6.drew.heap.size w6.drew w'):=by have:=zCM H6.drew;rw [HLOG.out] at this;rwa [hXd.out] at this
    go_region_law (first
      | (go_simp;go_at_call 93;refine HLA6.out.mono ?_;rintro e w7 ⟨rfl,hb7⟩;have H7:=H6.drew.below hb7;have g7:=zA hb7 (zM g6);obtain ⟨y0,y1,y2,y3,y4,y5,y6,y7,y8⟩:=box9 g7;have glt:=zB g7;have o7:=zAX H7.prog (by have:=(prV_at HLM.out).2;rw [← prAt_at HLM.out,HPR.out] at this;exact this);simp only at o7;(try go_simp)))
    all_goals (
      have HAD:=Lib.hid (addn_at H7 HOKM.out j HLM.out)
      go_wp2_with (go_at_call 61;refine HAD.out.mono ?_;rintro e w8 ⟨a8,c8',rfl,own8,hb8⟩)
      go_ret
      exact RetR.oneB (mm.addn ((j:Int)+1)) (H7.below hb8) (((S7.drew).below hb7).below hb8) ((S7.drew).below hb7).chg.size H7.lt own8 hb8.size rfl)
end
theorem added_any {w:World} {b:Nat} {a:MA} {m:Mb} (h:MAt w b a m) (hok:MbOk m) (x:Ms) (am:Option Addr) (cm:Nat) (hx1:1≤x.frm) (hx2:x.frm≤m.prog.length) (hwi:-9223372036854775808≤x.index∧x.index≤9223372036854775807) :
    Calls Tryz.prog 68 #[.pointer (some ⟨b,0,none⟩),x.val am cm] w (RetR (m.added x).1 (m.added x).2 b a w):=by
  obtain ⟨xk,xf,xd,xt,xi,xl,xc,xy,xe⟩:=x
  simp only at hx1 hx2 hwi
  obtain ⟨j,rfl⟩:∃ j:Nat,xf=(j:Int)+1:=⟨(xf - 1).toNat,by omega⟩
  have hj:j<m.prog.length:=by omega
  unfold Mb.added
  simp only
  by_cases h1:m.role≠2∨xt≠m.term
  · rw [if_pos h1]
    exact added_no h hok xk xd xt xi xl xc j hj xy xe am cm hwi h1
  rw [if_neg h1]
  have hr:m.role=2:=by
    by_cases h2:m.role=2
    · exact h2
    · exact (h1 (.inl h2)).elim
  have ht:xt=m.term:=by
    by_cases h2:xt=m.term
    · exact h2
    · exact (h1 (.inr h2)).elim
  cases xy with
  | false =>
    rw [if_pos rfl]
    exact added_back h hok xk xd xt xi xl xc j hj xe am cm hwi hr ht
  | true =>
    rw [if_neg (by decide)]
    by_cases h2:xi<0
    · rw [if_pos (.inl h2)]
      exact added_neg h hok xk xd xt xi xl xc j hj xe am cm hwi hr ht h2
    by_cases h3:(lastF 0 0 m.log).1<xi
    · rw [if_pos (.inr h3)]
      exact added_far h hok xk xd xt xi xl xc j hj xe am cm hwi hr ht (by omega) h3
    rw [if_neg (by omega)]
    by_cases h4:(lastF 0 0 m.log).1<max (m.prAt ((j:Int)+1)).1 xi+1
    · rw [if_pos h4]
      exact added_done h hok xk xd xt xi xl xc j hj xe am cm hwi hr ht (by omega) (by omega) h4
    · rw [if_neg h4]
      exact added_more h hok xk xd xt xi xl xc j hj xe am cm hwi hr ht (by omega) (by omega) (by omega)
theorem LogIn.chg {S:List Nat} {w w':World} {am:Option Addr} {cm:Nat} {es:List En} (h:LogIn w am cm es) (hc:Chg S w w') (hd:es.length≠0 → ∀ x ∈ zU am,x ∉ S):LogIn w' am cm es:=by
  refine ⟨?_,h.cap,h.none_,h.max⟩
  by_cases h0:es.length=0
  · obtain rfl:=List.eq_nil_of_length_eq_zero h0
    exact RowAt.nil
  · exact h.row.chg hc (hd h0)
section
variable {w:World} {b:Nat} {a:MA} {m:Mb}
set_option maxRecDepth 100000 in
set_option maxHeartbeats 6400000 in
theorem hear_x (h : MAt w b a m) (xk xf xd xt xi xl xc : Int) (xy : Bool) (xe : List En) (am : Option Addr) (cm : Nat) (hk : (Lit.int .i64 xk).wf = true) (hok : MbOk m) (hq0 : m.hears ⟨xk, xf, xd, xt, xi, xl, xc, xy, xe⟩ = true → LogIn w am cm xe ∧ xe.length ≤ 1000000 ∧ (xe.length ≠ 0 → ∀ y ∈ zU am, y ∉ foot b a)) (hwi : -9223372036854775808 ≤ xi ∧ xi ≤ 9223372036854775807) :
    Calls Tryz.prog 34 #[.pointer (some ⟨b,0,none⟩),.agg #[.int .i64 xk,.int .i64 xf,.int .i64 xd,.int .i64 xt,.int .i64 xi,.int .i64 xl,.int .i64 xc,.bool xy,.slice am xe.length cm]] w (RetR (m.hear ⟨xk,xf,xd,xt,xi,xl,xc,xy,xe⟩).1 (m.hear ⟨xk,xf,xd,xt,xi,xl,xc,xy,xe⟩).2 b a w):=by
  have hmm:=@run_makeMap Tryz.prog
  have hal:=zC w (.cells #[.int .i64 xk,.int .i64 xf,.int .i64 xd,.int .i64 xt,.int .i64 xi,.int .i64 xl,.int .i64 xc,.bool xy,.slice am xe.length cm] 78)
  have g0:=zG w (.cells #[.int .i64 xk,.int .i64 xf,.int .i64 xd,.int .i64 xt,.int .i64 xi,.int .i64 xl,.int .i64 xc,.bool xy,.slice am xe.length cm] 78)
  have hal2:=hal.alloc hal.size (.map #[] 0)
  have g02:=zH g0 (.map #[] 0)
  have hm0:FunsAt ((w.alloc (.cells #[.int .i64 xk,.int .i64 xf,.int .i64 xd,.int .i64 xt,.int .i64 xi,.int .i64 xl,.int .i64 xc,.bool xy,.slice am xe.length cm] 78)).alloc (.map #[] 0)) (w.heap.size+1) b []:=by
    have:=World.ownsMap_made (w.alloc (.cells #[.int .i64 xk,.int .i64 xf,.int .i64 xd,.int .i64 xt,.int .i64 xi,.int .i64 xl,.int .i64 xc,.bool xy,.slice am xe.length cm] 78)) Tryz.prog 3 (FR b)
    have e:(w.alloc (.cells #[.int .i64 xk,.int .i64 xf,.int .i64 xd,.int .i64 xt,.int .i64 xi,.int .i64 xl,.int .i64 xc,.bool xy,.slice am xe.length cm] 78)).heap.size=w.heap.size+1:=by simp
    rw [e] at this
    exact this
  have HO:=Lib.hid h
  go_enter Tryz.func34,Tryz.ntmps34
  go_upto_region 2 with (first
    | (refine wpList_insertF (l:=[]) rfl (.tmp 8) (.const (.int .i64 0)) (.tmp 10) (by rfl) (by rfl) (by rfl) (by rfl) hm0 (by decide) (by unfold maxLen;decide) ?_;intro w1 hm1' hc1;have hm1:FunsAt w1 (w.heap.size+1) b [(0,65)]:=hm1';clear hm1')
    | (refine wpList_insertF (l:=[(0,65)]) rfl (.tmp 8) (.const (.int .i64 1)) (.tmp 12) (by rfl) (by rfl) (by rfl) (by rfl) hm1 (by decide) (by unfold maxLen;decide) ?_;intro w2 hm2' hc2;have hm2:FunsAt w2 (w.heap.size+1) b [(0,65),(1,66)]:=hm2';clear hm2')
    | (refine wpList_insertF (l:=[(0,65),(1,66)]) rfl (.tmp 8) (.const (.int .i64 2)) (.tmp 14) (by rfl) (by rfl) (by rfl) (by rfl) hm2 (by decide) (by unfold maxLen;decide) ?_;intro w3 hm3' hc3;have hm3:FunsAt w3 (w.heap.size+1) b [(0,65),(1,66),(2,67)]:=hm3';clear hm3')
    | (refine wpList_insertF (l:=[(0,65),(1,66),(2,67)]) rfl (.tmp 8) (.const (.int .i64 3)) (.tmp 16) (by rfl) (by rfl) (by rfl) (by rfl) hm3 (by decide) (by unfold maxLen;decide) ?_;intro w4 hm4' hc4;have hm4:FunsAt w4 (w.heap.size+1) b [(0,65),(1,66),(2,67),(3,68)]:=hm4';clear hm4'))
  have hb4:Below w.heap.size w w4:=by
    have hsz:((w.alloc (.cells #[.int .i64 xk,.int .i64 xf,.int .i64 xd,.int .i64 xt,.int .i64 xi,.int .i64 xl,.int .i64 xc,.bool xy,.slice am xe.length cm] 78)).alloc (.map #[] 0)).heap.size=w.heap.size+2:=by simp
    have q:∀ (a b:World),Chg [w.heap.size+1] a b → w.heap.size≤a.heap.size → Below w.heap.size a b:=fun a b hc hs=>hc.to_below (fun x hx=>by rw [List.mem_singleton] at hx;omega) hs
    have s1:=hc1.size
    have s2:=hc2.size
    have s3:=hc3.size
    exact (((hal2.trans (q _ _ hc1 (by omega))).trans (q _ _ hc2 (by omega))).trans (q _ _ hc3 (by omega))).trans (q _ _ hc4 (by omega))
  have gX:w4.heap[w.heap.size]?=some (.cells #[.int .i64 xk,.int .i64 xf,.int .i64 xd,.int .i64 xt,.int .i64 xi,.int .i64 xl,.int .i64 xc,.bool xy,.slice am xe.length cm] 78):=hc4.keep (hc3.keep (hc2.keep (hc1.keep g02 (by simp)) (by simp)) (by simp)) (by simp)
  have HLK:=FunsAt.look _ _ _ _ hm4 xk hk
  clear hm0 hm1 hm2 hm3 hm4 hc1 hc2 hc3 hc4 hmm hal hal2 g0 g02
  obtain ⟨d,hd⟩:∃ d:Value,d=(if xk=0 then .func (.func 65) #[.pointer (some ⟨b,0,none⟩)] #[] else if xk=1 then .func (.func 66) #[.pointer (some ⟨b,0,none⟩)] #[] else if xk=2 then .func (.func 67) #[.pointer (some ⟨b,0,none⟩)] #[] else if xk=3 then .func (.func 68) #[.pointer (some ⟨b,0,none⟩)] #[] else .nilFunc):=⟨_,rfl⟩
  rw [← hd] at HLK
  have HD:=Lib.hid hd
  clear hd
  have H4:=HO.out.below hb4
  have HE:=Lib.hid hok
  obtain ⟨x0,x1,x2,x3,x4,x5,x6,x7,x8⟩:=box9 gX
  obtain ⟨c0,c1,c2,c3,c4,c5,c6,c7,c8,c9,hlt⟩:=zAK H4.blk
  have flt:=zB gX
  go_wp2
  obtain ⟨O,hO⟩:∃ O:Bool,O=(decide (1≤xf) && decide (xf≤(m.prog.length:Int)) && (xf != m.id)):=⟨_,rfl⟩
  have HOB:=Lib.hid hO
  clear hO
  go_cut [6,7] (fun q p wx=>q=d∧p=.bool O∧wx.heap[w.heap.size]?=some (.cells #[.int .i64 xk,.int .i64 xf,.int .i64 xd,.int .i64 xt,.int .i64 xi,.int .i64 xl,.int .i64 xc,.bool xy,.slice am xe.length cm] 78)∧MAt wx b a m∧Below w.heap.size w wx)
  case first =>
    by_cases p1:1≤xf
    · by_cases p2:xf≤(m.prog.length:Int)
      · go_quiet (fail)
        all_goals (go_wp2_with fail;go_meet)
        all_goals exact ⟨rfl,by rw [HOB.out];simp [p1,p2],zI gX nq,H4.many nq,Below.many hb4 nq⟩
      · have p2':decide (xf≤(m.prog.length:Int))=false:=by simpa using p2
        go_quiet (fail)
        all_goals (go_wp2_with fail;go_meet)
        all_goals exact ⟨rfl,by rw [HOB.out,p2'];simp,zI gX nq,H4.many nq,Below.many hb4 nq⟩
    · have p1':decide (1≤xf)=false:=by simpa using p1
      go_quiet (fail)
      all_goals (go_wp2_with fail;go_meet)
      all_goals exact ⟨rfl,by rw [HOB.out,p1'];simp,zI gX nq,H4.many nq,Below.many hb4 nq⟩
  case rest =>
    obtain ⟨hq,rfl,gX5,H5,hb5⟩:=hcut
    subst hq
    clear x0 x1 x2 x3 x4 x5 x6 x7 x8 c0 c1 c2 c3 c4 c5 c6 c7 c8 c9 hlt flt HLK
    obtain ⟨x0,x1,x2,x3,x4,x5,x6,x7,x8⟩:=box9 gX5
    obtain ⟨c0,c1,c2,c3,c4,c5,c6,c7,c8,c9,hlt⟩:=zAK H5.blk
    have flt:=zB gX5
    have HO5:=Lib.hid H5
    have hnil:∀ w,(binOp .eql 80 .nilFunc .nilFunc).run Tryz.prog w=.ok (.bool true) w:=fun _=>by kernel_rfl
    by_cases e1:xd=m.id
    rotate_left 1
    · have e1':(xd != m.id)=true:=by simpa using e1
      have HN:Hid (m.hear ⟨xk,xf,xd,xt,xi,xl,xc,xy,xe⟩=(m,[])):=if_neg (by unfold Mb.hears;rw [decide_eq_true_eq];rintro ⟨q,_⟩;exact e1 q)
      clear e1
      go_wp2
      go_quiet (fail)
      go_wp2
      go_ret
      rw [HN.out]
      exact RetR.nil (HO5.out.many _) (Step.of_below (Below.many hb5 _))
    have e1':(xd != m.id)=false:=by simp [e1]
    cases O with
    | false =>
      have HN:Hid (m.hear ⟨xk,xf,xd,xt,xi,xl,xc,xy,xe⟩=(m,[])):=if_neg (by
        have:=HOB.out
        unfold Mb.hears
        rw [decide_eq_true_eq]
        rintro ⟨_,q1,q2,q3,_⟩
        simp [q1,q2,q3] at this)
      clear e1
      go_wp2
      go_quiet (fail)
      go_wp2
      go_ret
      rw [HN.out]
      exact RetR.nil (HO5.out.many _) (Step.of_below (Below.many hb5 _))
    | true =>
      have hO:=HOB.out
      have hO2:1≤xf∧xf≤(m.prog.length:Int)∧xf≠m.id:=by
        have:=hO.symm
        simp only [Bool.and_eq_true,decide_eq_true_eq,bne_iff_ne] at this
        exact ⟨this.1.1,this.1.2,this.2⟩
      have HO2:=Lib.hid hO2
      clear hO hO2 HOB
      by_cases e2:xt<1
      · have HN:Hid (m.hear ⟨xk,xf,xd,xt,xi,xl,xc,xy,xe⟩=(m,[])):=if_neg (by unfold Mb.hears;rw [decide_eq_true_eq];rintro ⟨_,_,_,_,q,_⟩;simp only at q;omega)
        clear e1
        go_wp2
        go_quiet (fail)
        go_wp2
        go_ret
        rw [HN.out]
        exact RetR.nil (HO5.out.many _) (Step.of_below (Below.many hb5 _))
      have e2':decide (xt<1)=false:=by simpa using e2
      by_cases e3:1073741824<xt
      · have HN:Hid (m.hear ⟨xk,xf,xd,xt,xi,xl,xc,xy,xe⟩=(m,[])):=if_neg (by unfold Mb.hears;rw [decide_eq_true_eq];rintro ⟨_,_,_,_,_,q,_⟩;simp only at q;omega)
        clear e1 e2
        go_wp2
        go_quiet (fail)
        go_wp2
        go_ret
        rw [HN.out]
        exact RetR.nil (HO5.out.many _) (Step.of_below (Below.many hb5 _))
      have e3':decide (1073741824<xt)=false:=by simpa using e3
      by_cases e4:0≤xk∧xk≤3
      rotate_left 1
      · have HN:Hid (m.hear ⟨xk,xf,xd,xt,xi,xl,xc,xy,xe⟩=(m,[])):=if_neg (by unfold Mb.hears;rw [decide_eq_true_eq];rintro ⟨_,_,_,_,_,_,q1,q2⟩;exact e4 ⟨q1,q2⟩)
        have hd:=HD.out
        rw [if_neg (by omega),if_neg (by omega),if_neg (by omega),if_neg (by omega)] at hd
        subst hd
        clear e1 e2 e3 e4
        go_wp2
        go_quiet (fail)
        go_wp2
        go_ret
        rw [HN.out]
        exact RetR.nil (HO5.out.many _) (Step.of_below (Below.many hb5 _))
      have hhr:m.hears ⟨xk,xf,xd,xt,xi,xl,xc,xy,xe⟩=true:=by unfold Mb.hears;rw [decide_eq_true_eq];exact ⟨e1,HO2.out.1,HO2.out.2.1,HO2.out.2.2,by simp only;omega,by simp only;omega,e4.1,e4.2⟩
      have HHE:Hid (m.hear ⟨xk,xf,xd,xt,xi,xl,xc,xy,xe⟩=(m.seen ⟨xk,xf,xd,xt,xi,xl,xc,xy,xe⟩).acts ⟨xk,xf,xd,xt,xi,xl,xc,xy,xe⟩):=if_pos hhr
      have HQ0:=Lib.hid (hq0 hhr)
      clear hhr hq0
      have hex:∃ n:Nat,u6=.func (.func n) #[.pointer (some ⟨b,0,none⟩)] #[]∧(xk=0 → n=65)∧(xk=1 → n=66)∧(xk=2 → n=67)∧(xk=3 → n=68):=by
        have hd:=HD.out
        by_cases k0:xk=0
        · rw [if_pos k0] at hd
          exact ⟨_,hd,fun _=>rfl,fun e=>by omega,fun e=>by omega,fun e=>by omega⟩
        rw [if_neg k0] at hd
        by_cases k1:xk=1
        · rw [if_pos k1] at hd
          exact ⟨_,hd,fun e=>by omega,fun _=>rfl,fun e=>by omega,fun e=>by omega⟩
        rw [if_neg k1] at hd
        by_cases k2:xk=2
        · rw [if_pos k2] at hd
          exact ⟨_,hd,fun e=>by omega,fun e=>by omega,fun _=>rfl,fun e=>by omega⟩
        rw [if_neg k2,if_pos (by omega)] at hd
        exact ⟨_,hd,fun e=>by omega,fun e=>by omega,fun e=>by omega,fun _=>rfl⟩
      obtain ⟨n,hn,hns⟩:=hex
      have HNS:=Lib.hid hns
      clear HD hns
      subst hn
      have hnf:∀ w f c,(binOp .eql 80 (.func (.func n) f c) .nilFunc).run Tryz.prog w=.ok (.bool false) w:=fun _ _ _=>by kernel_rfl
      have HK:=Lib.hid e4
      have HTT:Hid (1≤xt∧xt≤1073741824):=⟨by omega,by omega⟩
      clear e1 e4
      go_wp2
      go_quiet (fail)
      have H6:=HO5.out.many nq
      have gX6:=zI gX5 nq
      have hb6:=Below.many hb5 nq
      clear x0 x1 x2 x3 x4 x5 x6 x7 x8 c0 c1 c2 c3 c4 c5 c6 c7 c8 c9 hlt flt e1' e2 e2' e3 e3' HO5 gX5 H5 hb5 hb4 gX H4
      generalize wc.drewN nq=W6 at *
      have S6:Step w b a W6 a:=.of_below hb6
      have hnx:=h.new (Nat.le_refl w.heap.size)
      have hbX:b≠w.heap.size:=fun e=>hnx (e ▸ zBM b a)
      obtain ⟨x0,x1,x2,x3,x4,x5,x6,x7,x8⟩:=box9 gX6
      obtain ⟨c0,c1,c2,c3,c4,c5,c6,c7,c8,c9,hlt⟩:=zAK H6.blk
      obtain ⟨fr0,fr1,fr2,fr3,fr4,fr5,fr6,fr7,fr8,fr9⟩:=fro9 H6.blk
      have flt:=zB gX6
      go_wp2
      go_quiet (fail)
      replace H6:=H6.many nq
      replace gX6:=zI gX6 nq
      replace S6:=S6.many nq
      clear x0 x1 x2 x3 x4 x5 x6 x7 x8 c0 c1 c2 c3 c4 c5 c6 c7 c8 c9 hlt flt fr0 fr1 fr2 fr3 fr4 fr5 fr6 fr7 fr8 fr9 hb6
      generalize W6.drewN nq=W7 at *
      obtain ⟨x0,x1,x2,x3,x4,x5,x6,x7,x8⟩:=box9 gX6
      obtain ⟨c0,c1,c2,c3,c4,c5,c6,c7,c8,c9,hlt⟩:=zAK H6.blk
      have flt:=zB gX6
      go_upto_if 76 with (fail)
      go_cut [6] (fun q wx=>q=.func (.func n) #[.pointer (some ⟨b,0,none⟩)] #[]∧wx.heap[w.heap.size]?=some (.cells #[.int .i64 xk,.int .i64 xf,.int .i64 xd,.int .i64 xt,.int .i64 xi,.int .i64 xl,.int .i64 xc,.bool xy,.slice am xe.length cm] 78)∧MAt wx b a (m.seen ⟨xk,xf,xd,xt,xi,xl,xc,xy,xe⟩)∧Step w b a wx a)
      case first =>
        by_cases p1:m.term<xt
        · have HSE:Hid (m.seen ⟨xk,xf,xd,xt,xi,xl,xc,xy,xe⟩={ m with term:=xt,vote:=0,role:=0 }):=if_pos p1
          have HSee:=Lib.hid (see_any m.term m.vote xt W7.drew)
          have hsf:seeF m.term m.vote xt=(xt,0):=if_pos ⟨p1,HTT.out.2⟩
          rw [hsf] at HSee
          clear hsf
          go_wp2
          go_region_law (first
            | (go_simp;go_at_call 69;refine HSee.out.mono ?_;rintro e w8 ⟨rfl,hb8⟩;have H8:=H6.drew.below hb8;have g8:=zA hb8 (zM gX6);have S8:=(S6.drew).below hb8;obtain ⟨d0,d1,d2,d3,d4,d5,d6,d7,d8,d9,dlt⟩:=zAK H8.blk;obtain ⟨fr0,fr1,fr2,fr3,fr4,fr5,fr6,fr7,fr8,fr9⟩:=fro9 H8.blk;obtain ⟨y0,y1,y2,y3,y4,y5,y6,y7,y8⟩:=box9 g8;(try go_simp)))
          all_goals (go_wp2_with fail;go_meet)
          all_goals exact ⟨rfl,zL (zL (zL g8 (Ne.symm hbX) _) (Ne.symm hbX) _) (Ne.symm hbX) _,by rw [HSE.out];exact ((H8.store 1 (.int .i64 xt) (m':={ m with term:=xt }) rfl rfl rfl rfl).store 2 (.int .i64 0) (m':={ m with term:=xt,vote:=0 }) rfl rfl rfl rfl).store 6 (.int .i64 0) (m':={ m with term:=xt,vote:=0,role:=0 }) rfl rfl rfl rfl,((S8.store 1 _).store 2 _).store 6 _⟩
        · have HSE:Hid (m.seen ⟨xk,xf,xd,xt,xi,xl,xc,xy,xe⟩=m):=if_neg p1
          all_goals (go_wp2_with fail;go_meet)
          all_goals exact ⟨rfl,gX6,by rw [HSE.out];exact H6,S6⟩
      case rest =>
        obtain ⟨hq,gX8,H8,S8⟩:=hcut
        subst hq
        have HOKS:=Lib.hid (hok.seen ⟨xk,xf,xd,xt,xi,xl,xc,xy,xe⟩ HTT.out.2)
        obtain ⟨hl,hs,hdis⟩:=HQ0.out
        have HLI:=Lib.hid (hl.chg S8.chg hdis)
        have hsl:(m.seen ⟨xk,xf,xd,xt,xi,xl,xc,xy,xe⟩).prog.length=m.prog.length:=by unfold Mb.seen;split <;> rfl
        clear x0 x1 x2 x3 x4 x5 x6 x7 x8 c0 c1 c2 c3 c4 c5 c6 c7 c8 c9 hlt flt H6 gX6 S6 hnf
        obtain ⟨x0,x1,x2,x3,x4,x5,x6,x7,x8⟩:=box9 gX8
        have flt:=zB gX8
        by_cases k0:xk=0
        · obtain rfl:=HNS.out.1 k0
          have HAC:Hid ((m.seen ⟨xk,xf,xd,xt,xi,xl,xc,xy,xe⟩).acts ⟨xk,xf,xd,xt,xi,xl,xc,xy,xe⟩=(m.seen ⟨xk,xf,xd,xt,xi,xl,xc,xy,xe⟩).asked ⟨xk,xf,xd,xt,xi,xl,xc,xy,xe⟩):=by
            unfold Mb.acts
            simp only [k0]
            rfl
          have HCA:=Lib.hid (asked_any H8 ⟨xk,xf,xd,xt,xi,xl,xc,xy,xe⟩ am cm)
          clear k0
          go_wp2_with (go_at_call 65;refine HCA.out.mono ?_;rintro e w9 ⟨a9,B9,A9,c9,sl9,rfl,H9,S9,hB9,hF9,hms9⟩)
          go_ret
          rw [HHE.out,HAC.out]
          exact ⟨a9,B9,A9,c9,sl9,rfl,H9,S8.trans S9,Nat.le_trans S8.chg.size hB9,hF9,hms9⟩
        by_cases k1:xk=1
        · obtain rfl:=HNS.out.2.1 k1
          have HAC:Hid ((m.seen ⟨xk,xf,xd,xt,xi,xl,xc,xy,xe⟩).acts ⟨xk,xf,xd,xt,xi,xl,xc,xy,xe⟩=(m.seen ⟨xk,xf,xd,xt,xi,xl,xc,xy,xe⟩).voted ⟨xk,xf,xd,xt,xi,xl,xc,xy,xe⟩):=by
            unfold Mb.acts
            simp only [k1]
            rfl
          have HCA:=Lib.hid (voted_any H8 HOKS.out ⟨xk,xf,xd,xt,xi,xl,xc,xy,xe⟩ HO2.out.1 (by have:=HO2.out.2.1;have:=hok.n16;simp only;omega) am cm)
          clear k1
          go_wp2_with (go_at_call 66;refine HCA.out.mono ?_;rintro e w9 ⟨a9,B9,A9,c9,sl9,rfl,H9,S9,hB9,hF9,hms9⟩)
          go_ret
          rw [HHE.out,HAC.out]
          exact ⟨a9,B9,A9,c9,sl9,rfl,H9,S8.trans S9,Nat.le_trans S8.chg.size hB9,hF9,hms9⟩
        by_cases k2:xk=2
        · obtain rfl:=HNS.out.2.2.1 k2
          have HAC:Hid ((m.seen ⟨xk,xf,xd,xt,xi,xl,xc,xy,xe⟩).acts ⟨xk,xf,xd,xt,xi,xl,xc,xy,xe⟩=(m.seen ⟨xk,xf,xd,xt,xi,xl,xc,xy,xe⟩).add ⟨xk,xf,xd,xt,xi,xl,xc,xy,xe⟩):=by
            unfold Mb.acts
            simp only [k2]
            rfl
          have HCA:=Lib.hid (add_any H8 HOKS.out ⟨xk,xf,xd,xt,xi,xl,xc,xy,xe⟩ am cm HLI.out hs hdis)
          clear k2
          go_wp2_with (go_at_call 67;refine HCA.out.mono ?_;rintro e w9 ⟨a9,B9,A9,c9,sl9,rfl,H9,S9,hB9,hF9,hms9⟩)
          go_ret
          rw [HHE.out,HAC.out]
          exact ⟨a9,B9,A9,c9,sl9,rfl,H9,S8.trans S9,Nat.le_trans S8.chg.size hB9,hF9,hms9⟩
        by_cases k3:xk=3
        · obtain rfl:=HNS.out.2.2.2 k3
          have HAC:Hid ((m.seen ⟨xk,xf,xd,xt,xi,xl,xc,xy,xe⟩).acts ⟨xk,xf,xd,xt,xi,xl,xc,xy,xe⟩=(m.seen ⟨xk,xf,xd,xt,xi,xl,xc,xy,xe⟩).added ⟨xk,xf,xd,xt,xi,xl,xc,xy,xe⟩):=by
            unfold Mb.acts
            simp only [k3]
            rfl
          have HCA:=Lib.hid (added_any H8 HOKS.out ⟨xk,xf,xd,xt,xi,xl,xc,xy,xe⟩ am cm HO2.out.1 (by rw [hsl];exact HO2.out.2.1) hwi)
          clear k3
          go_wp2_with (go_at_call 68;refine HCA.out.mono ?_;rintro e w9 ⟨a9,B9,A9,c9,sl9,rfl,H9,S9,hB9,hF9,hms9⟩)
          go_ret
          rw [HHE.out,HAC.out]
          exact ⟨a9,B9,A9,c9,sl9,rfl,H9,S8.trans S9,Nat.le_trans S8.chg.size hB9,hF9,hms9⟩
        exfalso
        have:=HK.out
        omega
end
theorem hear_any {w:World} {b:Nat} {a:MA} {m:Mb} (h:MAt w b a m) (hok:MbOk m) (x:Ms) (am:Option Addr) (cm:Nat) (hk:(Lit.int .i64 x.kind).wf=true) (hwi:(Lit.int .i64 x.index).wf=true) (hq:m.hears x=true → LogIn w am cm x.ents∧x.ents.length≤1000000∧(x.ents.length≠0 → ∀ y ∈ zU am,y ∉ foot b a)) :
    Calls Tryz.prog 34 #[.pointer (some ⟨b,0,none⟩),x.val am cm] w (RetR (m.hear x).1 (m.hear x).2 b a w):=by
  obtain ⟨xk,xf,xd,xt,xi,xl,xc,xy,xe⟩:=x
  simp only at hk hwi hq
  exact hear_x h xk xf xd xt xi xl xc xy xe am cm hk hok hq (by simpa [Lit.wf,IntKind.min,IntKind.max,IntKind.bits,IntKind.signed] using hwi)
end Go.Proofs.YtnljdkglncmfaaaGreat
