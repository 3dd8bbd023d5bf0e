/-
  Part RgO of the proof.
-/
import Derived.Test.YtnljdkglncmfaaaGreatRgJ
import Derived.Test.YtnljdkglncmfaaaGreatRc
import Derived.Test.YtnljdkglncmfaaaGreatVoteC
namespace Go.Proofs.YtnljdkglncmfaaaGreat
open Go.RowKit
set_option linter.unusedVariables false
theorem RetRR.pre {w w1 w':World} {b:Nat} {a a1:RA} {m m1 m':Mb} {ms:List Ms} {e:Ending} (h:RetRR m' ms b a1 m1 w1 e w') (hs:RStep w b a m w1 a1 m1):RetRR m' ms b a m w e w':=by
  obtain ⟨a',B,A,c,sl,h1,h2,h3,h4,h5,h6⟩:=h
  exact ⟨a',B,A,c,sl,h1,h2,hs.trans h3,Nat.le_trans hs.chg.size h4,h5,h6⟩
section
variable {w:World} {b:Nat} {a:RA} {m:Mb}
set_option maxRecDepth 100000 in
set_option maxHeartbeats 6400000 in
theorem rhear_yes (h:RMAt w b a m) (hok:MbOk m) (x:Ms) (am:Option Addr) (cm:Nat) (hl:LogIn w am cm x.ents) (hs:x.ents.length≤1000000) (hi:-1≤x.index∧x.index≤64) (hdis:OutP (· ∉ rfoot b a) am x.ents.length) (hh:m.hears x=true) :
    Calls Tryz.prog 49 #[.pointer (some ⟨b,0,none⟩),x.val am cm] w (RetRR (m.hear x).1 (m.hear x).2 b a m w):=by
  obtain ⟨xk,xf,xd,xt,xi,xl,xc,xy,xe⟩:=x
  simp only at hl hs hi hdis
  show Calls _ _ #[.pointer (some ⟨b,0,none⟩),.agg #[.int .i64 xk,.int .i64 xf,.int .i64 xd,.int .i64 xt,.int .i64 xi,.int .i64 xl,.int .i64 xc,.bool xy,.slice am xe.length cm]] _ _
  have hal:=zC w (.cells #[.int .i64 xk,.int .i64 xf,.int .i64 xd,.int .i64 xt,.int .i64 xi,.int .i64 xl,.int .i64 xc,.bool xy,.slice am xe.length cm] 78)
  have g0:=zG w (.cells #[.int .i64 xk,.int .i64 xf,.int .i64 xd,.int .i64 xt,.int .i64 xi,.int .i64 xl,.int .i64 xc,.bool xy,.slice am xe.length cm] 78)
  have H1:=h.below hal
  have S1:RStep w b a m (w.alloc (.cells #[.int .i64 xk,.int .i64 xf,.int .i64 xd,.int .i64 xt,.int .i64 xi,.int .i64 xl,.int .i64 xc,.bool xy,.slice am xe.length cm] 78)) a m:=.of_below hal
  obtain ⟨x0,x1,x2,x3,x4,x5,x6,x7,x8⟩:=box9 g0
  have flt:=zB g0
  obtain ⟨c0,c1,c2,c3,c4,c5,c6,c7,c8,c9,c10,c11,hlt⟩:=zBA H1.blk
  have n16:=hok.n16
  have HR1:Hid (m.hear ⟨xk,xf,xd,xt,xi,xl,xc,xy,xe⟩=(m.seen ⟨xk,xf,xd,xt,xi,xl,xc,xy,xe⟩).acts ⟨xk,xf,xd,xt,xi,xl,xc,xy,xe⟩):=if_pos hh
  obtain ⟨e1,e3,e4,e2,e5,e6,e7,e8⟩:xd=m.id∧1≤xf∧xf≤(m.prog.length:Int)∧xf≠m.id∧1≤xt∧xt≤1073741824∧0≤xk∧xk≤3:=by
    unfold Mb.hears at hh
    rwa [decide_eq_true_eq] at hh
  have e1b:(xd != m.id)=false:=by simp [e1]
  have e2b:(xf == m.id)=false:=by simpa using e2
  clear hh e1 e2
  have hnx:=h.new (Nat.le_refl w.heap.size)
  have HLI:=Lib.hid hl
  have nx1:w.heap.size≠b:=fun e=>hnx (by simp [rfoot,e])
  have HSE:Hid (m.term<xt → ∀ W,Calls Tryz.prog 84 #[zV m.term m.vote,.int .i64 xt] W fun e w'=>e=.returned (zV xt 0)∧Below W.heap.size W w'):=fun ht W=>by
    have:=refSee_any m.term m.vote xt W
    rwa [show seeF m.term m.vote xt=(xt,0) from if_pos (by omega)] at this
  have HSN:Hid (m.term<xt → m.seen ⟨xk,xf,xd,xt,xi,xl,xc,xy,xe⟩={ m with term:=xt,vote:=0,role:=0 }):=fun ht=>if_pos ht
  have HSM:Hid (¬ m.term<xt → m.seen ⟨xk,xf,xd,xt,xi,xl,xc,xy,xe⟩=m):=fun ht=>if_neg ht
  have okS:=hok.seen ⟨xk,xf,xd,xt,xi,xl,xc,xy,xe⟩ e6
  have hps:(m.seen ⟨xk,xf,xd,xt,xi,xl,xc,xy,xe⟩).prog.length=m.prog.length:=by unfold Mb.seen;split <;> rfl
  have hls:(m.seen ⟨xk,xf,xd,xt,xi,xl,xc,xy,xe⟩).log=m.log:=by unfold Mb.seen;split <;> rfl
  have ht1:xt≤(m.seen ⟨xk,xf,xd,xt,xi,xl,xc,xy,xe⟩).term:=by
    unfold Mb.seen
    simp only
    split
    · exact Int.le_refl _
    · omega
  generalize hm1:m.seen ⟨xk,xf,xd,xt,xi,xl,xc,xy,xe⟩=m1 at *
  clear hm1
  replace hls:=Lib.hid hls
  replace hps:=Lib.hid hps
  go_enter Tryz.func49,Tryz.ntmps49
  go_wp2
  go_quiet (fail)
  replace H1:=H1.many nq
  replace S1:=S1.below (Below.many (zK _) nq)
  have g1:=zI g0 nq
  clear c0 c1 c2 c3 c4 c5 c6 c7 c8 c9 c10 c11 hlt x0 x1 x2 x3 x4 x5 x6 x7 x8 flt g0 hal
  generalize (w.alloc (.cells #[.int .i64 xk,.int .i64 xf,.int .i64 xd,.int .i64 xt,.int .i64 xi,.int .i64 xl,.int .i64 xc,.bool xy,.slice am xe.length cm] 78)).drewN nq=W1 at *
  go_upto_region 3 with fail
  go_cut [65] (fun c wx=>c=.bool (decide (m.term<xt))∧∃ n,wx=W1.drewN n)
  case first =>
    obtain ⟨x0,x1,x2,x3,x4,x5,x6,x7,x8⟩:=box9 g1
    have flt:=zB g1
    obtain ⟨c0,c1,c2,c3,c4,c5,c6,c7,c8,c9,c10,c11,hlt⟩:=zBA H1.blk
    obtain ⟨fr0,fr1,fr2,fr3,fr4,fr5,fr6,fr7,fr8,fr9,fr10,fr11⟩:=fro12 H1.blk
    by_cases ht:m.term<xt
    · go_quiet (fail)
      go_wp2
      go_meet
      exact ⟨by rw [decide_eq_true ht],_,rfl⟩
    · have ht':xt≤m.term:=by omega
      go_quiet (fail)
      go_wp2
      go_meet
      exact ⟨by rw [decide_eq_false (by omega)],_,rfl⟩
  case rest =>
  obtain ⟨rfl,nn,rfl⟩:=hcut
  replace H1:=H1.many nn
  replace S1:=S1.below (Below.many (zK _) nn)
  replace g1:=zI g1 nn
  generalize W1.drewN nn=W1 at *
  go_upto_if 65 with fail
  go_cut [] (fun wx=>RMAt wx b a m1∧RStep w b a m wx a m1∧wx.heap[w.heap.size]?=some (.cells #[.int .i64 xk,.int .i64 xf,.int .i64 xd,.int .i64 xt,.int .i64 xi,.int .i64 xl,.int .i64 xc,.bool xy,.slice am xe.length cm] 78))
  case first =>
    obtain ⟨x0,x1,x2,x3,x4,x5,x6,x7,x8⟩:=box9 g1
    have flt:=zB g1
    obtain ⟨c0,c1,c2,c3,c4,c5,c6,c7,c8,c9,c10,c11,hlt⟩:=zBA H1.blk
    obtain ⟨fr0,fr1,fr2,fr3,fr4,fr5,fr6,fr7,fr8,fr9,fr10,fr11⟩:=fro12 H1.blk
    by_cases ht:m.term<xt
    · have HE:=Lib.hid (HSE.out ht)
      have HN:=Lib.hid (HSN.out ht)
      rw [decide_eq_true ht]
      clear HSE HSN HSM
      go_wp2
      go_region_law (first
        | (go_simp;go_at_call 84;refine (HE.out _).mono ?_;rintro e w3 ⟨rfl,hb3⟩;have hb13:Below W1.heap.size W1 w3:=(by first | exact hb3 | exact (zK W1).drew.trans hb3);have H3:=H1.below hb13;have S3:=S1.below hb13;have g3:=zA hb13 g1;obtain ⟨d0,d1,d2,d3,d4,d5,d6,d7,d8,d9,d10,d11,dlt⟩:=zBA H3.blk;obtain ⟨fs0,fs1,fs2,fs3,fs4,fs5,fs6,fs7,fs8,fs9,fs10,fs11⟩:=fro12 H3.blk;(try go_simp)))
      all_goals go_wp2
      all_goals go_meet
      all_goals (
        rw [HN.out]
        exact ⟨((H3.store (m':={ m with term:=xt }) 2 _ rfl rfl rfl rfl).store (m':={ m with term:=xt,vote:=0 }) 3 _ rfl rfl rfl rfl).store 7 _ rfl rfl rfl rfl,((S3.set (m2:={ m with term:=xt }) (by simp [rfoot]) 2 _ rfl).set (m2:={ m with term:=xt,vote:=0 }) (by simp [rfoot]) 3 _ rfl).set (by simp [rfoot]) 7 _ rfl,zL (zL (zL g3 nx1 _) nx1 _) nx1 _⟩)
    · have HN:=Lib.hid (HSM.out (by omega))
      rw [decide_eq_false ht]
      go_wp2
      go_meet
      rw [HN.out]
      exact ⟨H1,S1,g1⟩
  case rest =>
    obtain ⟨H4,S4,g4⟩:=hcut
    have hl4:=HLI.out.chgO S4.chg hdis
    clear H1 S1
    obtain ⟨x0,x1,x2,x3,x4,x5,x6,x7,x8⟩:=box9 g4
    have flt:=zB g4
    obtain ⟨c0,c1,c2,c3,c4,c5,c6,c7,c8,c9,c10,c11,hlt⟩:=zBA H4.blk
    have hcase:xk=0∨xk=1∨xk=2∨xk=3:=by omega
    rcases hcase with rfl | rfl | rfl | rfl
    · have HR2:Hid (m.hear ⟨0,xf,xd,xt,xi,xl,xc,xy,xe⟩=m1.asked ⟨0,xf,xd,xt,xi,xl,xc,xy,xe⟩):=HR1
      have HG:Hid (∀ W,Below wc.heap.size wc W → Calls Tryz.prog 85 #[zV m1.term m1.vote,logV 0 0 a.la m1.log.length a.lc,.agg #[.int .i64 0,.int .i64 xf,.int .i64 xd,.int .i64 xt,.int .i64 xi,.int .i64 xl,.int .i64 xc,.bool xy,.slice am xe.length cm]] W fun e w'=>e=.returned (.tuple #[zV (zBH m1.term m1.vote 0 0 m1.log xf xt xi xl).1 (zBH m1.term m1.vote 0 0 m1.log xf xt xi xl).2.1,.bool (zBH m1.term m1.vote 0 0 m1.log xf xt xi xl).2.2])∧Below W.heap.size W w'):=fun W hW=>refGrant_any m1.term m1.vote 0 0 a.la a.lc m1.log (0,xf,xd,xt,xi,xl,xc,xy,xe) am cm W (H4.below hW).log
      have hg1:(zBH m1.term m1.vote 0 0 m1.log xf xt xi xl).1=m1.term:=by
        have hs:seeF m1.term m1.vote xt=(m1.term,m1.vote):=if_neg (by omega)
        unfold zBH
        split <;> rw [hs]
      have HAS:Hid (m1.asked ⟨0,xf,xd,xt,xi,xl,xc,xy,xe⟩=({ m1 with term:=(zBH m1.term m1.vote 0 0 m1.log xf xt xi xl).1,vote:=(zBH m1.term m1.vote 0 0 m1.log xf xt xi xl).2.1 },[{ m1.say 1 xf with yes:=(zBH m1.term m1.vote 0 0 m1.log xf xt xi xl).2.2 }])):=rfl
      rw [hg1] at HG HAS
      generalize (zBH m1.term m1.vote 0 0 m1.log xf xt xi xl).2=gg at HG HAS
      clear hg1
      obtain ⟨gv,gy⟩:=gg
      simp only at HG HAS
      have hneB:b≠wc.heap.size:=by have:=zB H4.blk;omega
      have hneX:w.heap.size≠wc.heap.size:=by omega
      go_upto_region 8 with fail
      go_cut [5,6] (fun p q wx=>∃ X,p=.pointer (some ⟨X,0,none⟩)∧q=.bool gy∧wx.heap[X]?=some (.cells #[.int .i64 m1.term,.int .i64 gv] 34)∧wc.heap.size≤X∧Below wc.heap.size wc wx)
      case first =>
        have hSk:∀ Z,Below wc.heap.size wc Z → Z.cell? ⟨b,2,none⟩=some (.int .i64 m1.term)∧Z.cell? ⟨b,3,none⟩=some (.int .i64 m1.vote)∧Z.cell? ⟨b,4,none⟩=some (.int .i64 0)∧Z.cell? ⟨b,5,none⟩=some (.int .i64 0)∧Z.cell? ⟨b,6,none⟩=some (.slice a.la m1.log.length a.lc)∧Z.cell? ⟨w.heap.size,0,none⟩=some (.int .i64 0)∧Z.cell? ⟨w.heap.size,1,none⟩=some (.int .i64 xf)∧Z.cell? ⟨w.heap.size,2,none⟩=some (.int .i64 xd)∧Z.cell? ⟨w.heap.size,3,none⟩=some (.int .i64 xt)∧Z.cell? ⟨w.heap.size,4,none⟩=some (.int .i64 xi)∧Z.cell? ⟨w.heap.size,5,none⟩=some (.int .i64 xl)∧Z.cell? ⟨w.heap.size,6,none⟩=some (.int .i64 xc)∧Z.cell? ⟨w.heap.size,7,none⟩=some (.bool xy)∧Z.cell? ⟨w.heap.size,8,none⟩=some (.slice am xe.length cm):=fun Z hZ=>⟨zE (zA hZ H4.blk) 2,zE (zA hZ H4.blk) 3,zE (zA hZ H4.blk) 4,zE (zA hZ H4.blk) 5,zE (zA hZ H4.blk) 6,zE (zA hZ g4) 0,zE (zA hZ g4) 1,zE (zA hZ g4) 2,zE (zA hZ g4) 3,zE (zA hZ g4) 4,zE (zA hZ g4) 5,zE (zA hZ g4) 6,zE (zA hZ g4) 7,zE (zA hZ g4) 8⟩
        clear c0 c1 c2 c3 c4 c5 c6 c7 c8 c9 c10 c11 x0 x1 x2 x3 x4 x5 x6 x7 x8
        have hq0:=zK wc
        go_region_held3 (fun Z=>Z.cell? ⟨b,2,none⟩=some (.int .i64 m1.term)∧Z.cell? ⟨b,3,none⟩=some (.int .i64 m1.vote)∧Z.cell? ⟨b,4,none⟩=some (.int .i64 0)∧Z.cell? ⟨b,5,none⟩=some (.int .i64 0)∧Z.cell? ⟨b,6,none⟩=some (.slice a.la m1.log.length a.lc)∧Z.cell? ⟨w.heap.size,0,none⟩=some (.int .i64 0)∧Z.cell? ⟨w.heap.size,1,none⟩=some (.int .i64 xf)∧Z.cell? ⟨w.heap.size,2,none⟩=some (.int .i64 xd)∧Z.cell? ⟨w.heap.size,3,none⟩=some (.int .i64 xt)∧Z.cell? ⟨w.heap.size,4,none⟩=some (.int .i64 xi)∧Z.cell? ⟨w.heap.size,5,none⟩=some (.int .i64 xl)∧Z.cell? ⟨w.heap.size,6,none⟩=some (.int .i64 xc)∧Z.cell? ⟨w.heap.size,7,none⟩=some (.bool xy)∧Z.cell? ⟨w.heap.size,8,none⟩=some (.slice am xe.length cm)) ((refine hSk _ ?_;repeat' (first | with_reducible exact hq0 | with_reducible exact hb23 | with_reducible exact hb23.size | with_reducible exact Nat.le_refl _ | refine Below.drew ?_ | refine Below.alloc ?_ ?_ _ | refine Below.setCell ?_ ?_ _ | (simp;done) | (simp;omega) | omega))) ((first
          | (go_at_call 85;(with_reducible refine (HG.out _ (zK wc).drew).mono ?_);rintro e w3 ⟨rfl,hb3⟩;have hb23:=(zK wc).drew.trans hb3)
          | (go_at_call 85;(with_reducible refine (HG.out _ (zC wc (.cells #[.int .i64 0,.int .i64 0] 34)).drew).mono ?_);rintro e w3 ⟨rfl,hb3⟩;have hbW:Below wc.heap.size wc (wc.alloc (.cells #[.int .i64 0,.int .i64 0] 34)).drew:=(zC wc (.cells #[.int .i64 0,.int .i64 0] 34)).drew;have hb23:=hbW.trans (hb3.mono hbW.size);have gL3:=zA hb3 (zM (zG wc (.cells #[.int .i64 0,.int .i64 0] 34)));obtain ⟨l0,l1,lf0,lf1,llt⟩:=box2 gL3)))
        all_goals (go_wp2_with fail;go_meet)
        all_goals (first
          | exact ⟨w3.heap.size,rfl,rfl,zG w3 _,hb23.size,hb23.alloc hb23.size _⟩
          | exact ⟨wc.heap.size,rfl,rfl,zAA gL3 (.int .i64 m1.term) (.int .i64 gv),Nat.le_refl _,zP hb23 (Nat.le_refl _) (.int .i64 m1.term) (.int .i64 gv)⟩)
      case rest =>
        obtain ⟨X,rfl,rfl,gX,hX,hb5⟩:=hcut
        have H5:=H4.below hb5
        have S5:=S4.below hb5
        have g5:=zA hb5 g4
        have hXb:X≠b:=by have:=zB H4.blk;omega
        clear hb5
        obtain ⟨p0,p1,pf0,pf1,plt⟩:=box2 gX
        obtain ⟨x0,x1,x2,x3,x4,x5,x6,x7,x8⟩:=box9 g5
        have flt:=zB g5
        obtain ⟨c0,c1,c2,c3,c4,c5,c6,c7,c8,c9,c10,c11,hlt⟩:=zBA H5.blk
        obtain ⟨fr0,fr1,fr2,fr3,fr4,fr5,fr6,fr7,fr8,fr9,fr10,fr11⟩:=fro12 H5.blk
        go_upto_region 10 with fail
        have H6:=(H5.store (m':={ m1 with term:=m1.term }) 2 (.int .i64 m1.term) rfl rfl rfl rfl).store (m':={ m1 with vote:=gv }) 3 (.int .i64 gv) rfl rfl rfl rfl
        have S6:=(S5.set (c:=b) (m2:=m1) (by simp [rfoot]) 2 (.int .i64 m1.term) rfl).set (c:=b) (m2:={ m1 with vote:=gv }) (by simp [rfoot]) 3 (.int .i64 gv) rfl
        have g6:=zL (i:=3) (zL (i:=2) g5 nx1 (.int .i64 m1.term)) nx1 (.int .i64 gv)
        have HSY:=Lib.hid (fun (W:World) (hW:RMAt W b a { m1 with vote:=gv })=>rsay_any hW 1 xf)
        clear x0 x1 x2 x3 x4 x5 x6 x7 x8 c0 c1 c2 c3 c4 c5 c6 c7 c8 c9 c10 c11 fr0 fr1 fr2 fr3 fr4 fr5 fr6 fr7 fr8 fr9 fr10 fr11 hlt flt p0 p1 pf0 pf1 plt H5 S5 g5 gX
        generalize hWW:(World.setCell _ ⟨b,3,none⟩ (.int .i64 gv))=W6 at *
        clear hWW
        obtain ⟨x0,x1,x2,x3,x4,x5,x6,x7,x8⟩:=box9 g6
        have flt:=zB g6
        obtain ⟨c0,c1,c2,c3,c4,c5,c6,c7,c8,c9,c10,c11,hlt⟩:=zBA H6.blk
        clear HSY
        have HS6:Hid (∀ W,RMAt W b a { m1 with vote:=gv } → Calls Tryz.prog 78 #[.pointer (some ⟨b,0,none⟩),.int .i64 1,.int .i64 xf] W fun e w'=>e=.returned (.agg #[.int .i64 1,.int .i64 m1.id,.int .i64 xf,.int .i64 m1.term,.int .i64 0,.int .i64 0,.int .i64 0,.bool false,.slice none 0 0])∧Below W.heap.size W w'):=fun W hW=>rsay_any hW 1 xf
        go_upto_region 11 with (go_at_call 78;refine (HS6.out _ (by first | exact H6 | exact H6.drew)).mono ?_;rintro e w7 ⟨rfl,hb7⟩)
        have hb67:Below W6.heap.size W6 w7:=by first | exact hb7 | exact (zK W6).drew.trans hb7
        have hal7:=zC w7 (.cells #[.int .i64 1,.int .i64 m1.id,.int .i64 xf,.int .i64 m1.term,.int .i64 0,.int .i64 0,.int .i64 0,.bool false,.slice none 0 0] 78)
        have gY:=zG w7 (.cells #[.int .i64 1,.int .i64 m1.id,.int .i64 xf,.int .i64 m1.term,.int .i64 0,.int .i64 0,.int .i64 0,.bool false,.slice none 0 0] 78)
        have hb68:=hb67.trans (hal7.mono hb67.size)
        have H8:=H6.below hb68
        have S8:=S6.below hb68
        have hn8:w7.heap.size ∉ rfoot b a:=H6.new hb67.size
        have hz6:w.heap.size≤w7.heap.size:=Nat.le_trans S6.chg.size hb67.size
        have hl8:OutP (·≠w7.heap.size) a.la m1.log.length:=(H6.log.ltO).mono fun x hx e=>by have h9:x<W6.heap.size:=hx;have:=hb67.size;omega
        clear x0 x1 x2 x3 x4 x5 x6 x7 x8 flt c0 c1 c2 c3 c4 c5 c6 c7 c8 c9 c10 c11 hlt hb67 hal7 hb68 hb7
        generalize w7.alloc (.cells #[.int .i64 1,.int .i64 m1.id,.int .i64 xf,.int .i64 m1.term,.int .i64 0,.int .i64 0,.int .i64 0,.bool false,.slice none 0 0] 78)=W8 at *
        generalize w7.heap.size=F8 at *
        obtain ⟨y0,y1,y2,y3,y4,y5,y6,y7,y8⟩:=box9 gY
        obtain ⟨fs0,fs1,fs2,fs3,fs4,fs5,fs6,fs7,fs8,fs9⟩:=fro9 gY
        have glt:=zB gY
        go_wp2
        go_ret
        rw [HR2.out,HAS.out]
        exact RetRR.one (w1:=W8.setCell ⟨F8,7,none⟩ (.bool gy)) { m1.say 1 xf with yes:=gy } (H8.far hn8 hl8 7 _) (S8.far hz6 7 _) (World.ownsRow_nil _ _ _ _) (by simp only [szSet]) rfl
    · skip
      have HR2:Hid (m.hear ⟨1,xf,xd,xt,xi,xl,xc,xy,xe⟩=m1.voted ⟨1,xf,xd,xt,xi,xl,xc,xy,xe⟩):=HR1
      have HC:=Lib.hid (rvoted_any H4 okS ⟨1,xf,xd,xt,xi,xl,xc,xy,xe⟩ e3 (by rw [hps.out];exact e4) am cm)
      have HCC:Hid (Calls Tryz.prog 86 #[.pointer (some ⟨b,0,none⟩),.agg #[.int .i64 1,.int .i64 xf,.int .i64 xd,.int .i64 xt,.int .i64 xi,.int .i64 xl,.int .i64 xc,.bool xy,.slice am xe.length cm]] wc (RetRR (m1.voted ⟨1,xf,xd,xt,xi,xl,xc,xy,xe⟩).1 (m1.voted ⟨1,xf,xd,xt,xi,xl,xc,xy,xe⟩).2 b a m1 wc)):=HC.out
      go_wp2_with (go_at_call 86;refine HCC.out.mono ?_;rintro e w5 hr5;have hr6:=hr5.pre S4;obtain ⟨a5,B5,A5,c5',sl5,rfl,M5,S5,hB5,hF5,ms5⟩:=hr6)
      go_ret
      rw [HR2.out]
      exact ⟨a5,B5,A5,c5',sl5,rfl,M5,S5,hB5,hF5,ms5⟩
    · skip
      have HR2:Hid (m.hear ⟨2,xf,xd,xt,xi,xl,xc,xy,xe⟩=m1.add ⟨2,xf,xd,xt,xi,xl,xc,xy,xe⟩):=HR1
      have HC:=Lib.hid (radd_any H4 okS ⟨2,xf,xd,xt,xi,xl,xc,xy,xe⟩ am cm hl4 hs (by simp only [Lit.wf,IntKind.min,IntKind.max,IntKind.bits,IntKind.signed];simp;omega) hdis)
      have HCC:Hid (Calls Tryz.prog 87 #[.pointer (some ⟨b,0,none⟩),.agg #[.int .i64 2,.int .i64 xf,.int .i64 xd,.int .i64 xt,.int .i64 xi,.int .i64 xl,.int .i64 xc,.bool xy,.slice am xe.length cm]] wc (RetRR (m1.add ⟨2,xf,xd,xt,xi,xl,xc,xy,xe⟩).1 (m1.add ⟨2,xf,xd,xt,xi,xl,xc,xy,xe⟩).2 b a m1 wc)):=HC.out
      go_wp2_with (go_at_call 87;refine HCC.out.mono ?_;rintro e w5 hr5;have hr6:=hr5.pre S4;obtain ⟨a5,B5,A5,c5',sl5,rfl,M5,S5,hB5,hF5,ms5⟩:=hr6)
      go_ret
      rw [HR2.out]
      exact ⟨a5,B5,A5,c5',sl5,rfl,M5,S5,hB5,hF5,ms5⟩
    · skip
      have HR2:Hid (m.hear ⟨3,xf,xd,xt,xi,xl,xc,xy,xe⟩=m1.added ⟨3,xf,xd,xt,xi,xl,xc,xy,xe⟩):=HR1
      have HC:=Lib.hid (radded_any H4 okS ⟨3,xf,xd,xt,xi,xl,xc,xy,xe⟩ e3 (by rw [hps.out];exact e4) hi am cm)
      have HCC:Hid (Calls Tryz.prog 88 #[.pointer (some ⟨b,0,none⟩),.agg #[.int .i64 3,.int .i64 xf,.int .i64 xd,.int .i64 xt,.int .i64 xi,.int .i64 xl,.int .i64 xc,.bool xy,.slice am xe.length cm]] wc (RetRR (m1.added ⟨3,xf,xd,xt,xi,xl,xc,xy,xe⟩).1 (m1.added ⟨3,xf,xd,xt,xi,xl,xc,xy,xe⟩).2 b a m1 wc)):=HC.out
      go_wp2_with (go_at_call 88;refine HCC.out.mono ?_;rintro e w5 hr5;have hr6:=hr5.pre S4;obtain ⟨a5,B5,A5,c5',sl5,rfl,M5,S5,hB5,hF5,ms5⟩:=hr6)
      go_ret
      rw [HR2.out]
      exact ⟨a5,B5,A5,c5',sl5,rfl,M5,S5,hB5,hF5,ms5⟩
end
theorem rhear_any {w:World} {b:Nat} {a:RA} {m:Mb} (h:RMAt w b a m) (hok:MbOk m) (x:Ms) (am:Option Addr) (cm:Nat) (hl:LogIn w am cm x.ents) (hs:x.ents.length≤1000000) (hi:-1≤x.index∧x.index≤64) (hdis:OutP (· ∉ rfoot b a) am x.ents.length) :
    Calls Tryz.prog 49 #[.pointer (some ⟨b,0,none⟩),x.val am cm] w (RetRR (m.hear x).1 (m.hear x).2 b a m w):=by
  by_cases hh:m.hears x=true
  · exact rhear_yes h hok x am cm hl hs hi hdis hh
  · exact rhear_no h hok x am cm hh
end Go.Proofs.YtnljdkglncmfaaaGreat
