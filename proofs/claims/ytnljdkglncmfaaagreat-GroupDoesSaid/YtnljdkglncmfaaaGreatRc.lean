/-
  Part Rc of the proof.
-/
import Derived.Test.YtnljdkglncmfaaaGreatRb
import Derived.Test.YtnljdkglncmfaaaGreatRd
namespace Go.Proofs.YtnljdkglncmfaaaGreat
open Go.RowKit
set_option linter.unusedVariables false
theorem szSet (w:World) (p:Addr) (v:Value):(w.setCell p v).heap.size=w.heap.size:=by simp [World.setCell]
theorem RetRR.one {w w1 w':World} {b:Nat} {a a':RA} {m m':Mb} (x:Ms) {A:Option Addr} {c z:Nat} (h:RMAt w1 b a' m') (hs:RStep w b a m w1 a' m') (he:w1.ownsRow w1.heap.size 42 7 (.slice A x.ents.length c) x.ents.length (ensV x.ents)) (hz:z=w1.heap.size)
    (hw:w'=w1.alloc (.cells #[.int .i64 x.kind,.int .i64 x.frm,.int .i64 x.dst,.int .i64 x.term,.int .i64 x.index,.int .i64 x.lterm,.int .i64 x.commit,.bool x.yes,.slice A x.ents.length c] 78)):RetRR m' [x] b a m w (.returned (.slice (some ⟨z,0,none⟩) 1 1)) w':=by
  subst hz
  subst hw
  exact ⟨a',w1.heap.size,_,1,_,rfl,h.below (zC _ _),hs.below (zC _ _),hs.chg.size,h.lt,MsAt.one x A c (Nat.le_refl _) he⟩
theorem RMAt.far {w:World} {b:Nat} {a:RA} {m:Mb} (h:RMAt w b a m) {F:Nat} (hF:F ∉ rfoot b a) (hl:OutP (·≠F) a.la m.log.length) (i:Nat) (v:Value):RMAt (w.setCell ⟨F,i,none⟩ v) b a m :=
  h.chg (S:=[F]) ((Chg.refl _ _).setCell (.inl (by simp)) i v) (fun x hx hc=>by simp only [List.mem_singleton] at hc;subst hc;exact hF hx) (hl.mono fun x hx hc=>hx (by simpa using hc))
theorem RStep.far {w w1:World} {b:Nat} {a a1:RA} {m m1:Mb} (h:RStep w b a m w1 a1 m1) {F:Nat} (hF:w.heap.size≤F) (i:Nat) (v:Value):RStep w b a m (w1.setCell ⟨F,i,none⟩ v) a1 m1:=⟨h.chg.setCell (.inr hF) i v,h.sub,h.log⟩
section
variable {w:World} {b:Nat} {a:RA} {m:Mb}
set_option maxRecDepth 100000 in
set_option maxHeartbeats 6400000 in
theorem rfits_any (x : Ms) (am : Option Addr) (cm : Nat) (hl : LogIn w am cm x.ents) (hs : x.ents.length ≤ 1000000) : Calls Tryz.prog 116 #[x.val am cm] w fun e w' => e = .returned (.bool (!Mb.oddF x)) ∧ Below w.heap.size w w' := by
  obtain ⟨xk,xf,xd,xt,xi,xl,xc,xy,xe⟩:=x
  simp only at hl hs
  show Calls _ _ #[.agg #[.int .i64 xk,.int .i64 xf,.int .i64 xd,.int .i64 xt,.int .i64 xi,.int .i64 xl,.int .i64 xc,.bool xy,.slice am xe.length cm]] _ _
  have hal:=zC w (.cells #[.int .i64 xk,.int .i64 xf,.int .i64 xd,.int .i64 xt,.int .i64 xi,.int .i64 xl,.int .i64 xc,.bool xy,.slice am xe.length cm] 78)
  have g0:=zG w (.cells #[.int .i64 xk,.int .i64 xf,.int .i64 xd,.int .i64 xt,.int .i64 xi,.int .i64 xl,.int .i64 xc,.bool xy,.slice am xe.length cm] 78)
  obtain ⟨x0,x1,x2,x3,x4,x5,x6,x7,x8⟩:=box9 g0
  have flt:=zB g0
  have HL1:=Lib.hid (hl.below hal)
  have hod:Mb.oddF ⟨xk,xf,xd,xt,xi,xl,xc,xy,xe⟩=xe.any fun e=>decide (xt<e.1):=rfl
  rw [hod]
  clear hod hl
  go_enter Tryz.func116,Tryz.ntmps116
  go_wp2
  clear x0 x1 x2 x3 x4 x5 x6 x7 x8 flt
  go_loopw [3] (fun i wr=>∃ j:Nat,j≤xe.length∧i=.int .i64 (j:Int)∧Hid ((xe.take j).any (fun e=>decide (xt<e.1))=false)∧Below (w.alloc (.cells #[.int .i64 xk,.int .i64 xf,.int .i64 xd,.int .i64 xt,.int .i64 xi,.int .i64 xl,.int .i64 xc,.bool xy,.slice am xe.length cm] 78)).heap.size (w.alloc (.cells #[.int .i64 xk,.int .i64 xf,.int .i64 xd,.int .i64 xt,.int .i64 xi,.int .i64 xl,.int .i64 xc,.bool xy,.slice am xe.length cm] 78)) wr) (fun i _=>xe.length - (intOf i).toNat)
  case atStart=>exact ⟨0,by omega,rfl,by rw [Hid];rfl,zK _⟩
  case round =>
    obtain ⟨j,hj,rfl,HA,hbr⟩:=hrel
    have gr:=zA hbr g0
    obtain ⟨x0,x1,x2,x3,x4,x5,x6,x7,x8⟩:=box9 gr
    have flt:=zB gr
    by_cases hlt:j<xe.length
    · obtain ⟨eb,eoff,rfl,hebl,n0,n1,n2,n3,n4,n5,n6⟩:=zAF (HL1.out.row.below hbr) hlt
      have hj0:(0:Int)≤(j:Int):=by omega
      have hj1:(j:Int)<(xe.length:Int):=by omega
      have hw1:=zS (x:=(j:Int)+1) (by omega) (by omega)
      have HT:Hid ((xe.take (j+1)).any (fun e=>decide (xt<e.1))=decide (xt<(xe[j]'hlt).1)):=by
        rw [Hid,List.take_succ_eq_append_getElem hlt,List.any_append,HA.out];simp
      have HM:Hid (xt<(xe[j]'hlt).1 → (xe.any fun e=>decide (xt<e.1))=true):=fun h=>List.any_eq_true.2 ⟨_,List.getElem_mem hlt,decide_eq_true h⟩
      generalize (xe[j]'hlt)=z at n0 n1 n2 n3 n4 n5 n6 HT HM
      obtain ⟨z0,z1,z2,z3,z4,z5,z6⟩:=z
      simp only at n0 n1 n2 n3 n4 n5 n6 HT HM
      by_cases hz:xt<z0
      · have HM2:=Lib.hid (HM.out hz)
        go_wp2
        go_quiet (fail)
        go_wp2
        go_ret
        rw [HM2.out]
        exact ⟨rfl,Below.many (hal.trans (hbr.mono hal.size)) _⟩
      · have hz2:z0≤xt:=by omega
        rw [decide_eq_false hz] at HT
        go_wp2
        go_quiet (fail)
        go_wp2
        exact ⟨⟨j+1,by omega,by go_num,HT.out,Below.many hbr _⟩,by simp [intOf];omega⟩
    · have hje:j=xe.length:=by omega
      subst hje
      have HB:=HA.out
      rw [List.take_length] at HB
      have hj1:¬ (xe.length:Int)<(xe.length:Int):=by omega
      have HB2:=Lib.hid HB
      clear HB
      go_wp2
      go_ret
      rw [HB2.out]
      exact ⟨rfl,hal.trans (hbr.mono hal.size)⟩
end
section
variable {w:World} {b:Nat} {a:RA} {m:Mb}
set_option maxRecDepth 100000 in
set_option maxHeartbeats 6400000 in
theorem radd_any (h:RMAt w b a m) (hok:MbOk m) (x:Ms) (am:Option Addr) (cm:Nat) (hl:LogIn w am cm x.ents) (hs:x.ents.length≤1000000) (hwi:(Lit.int .i64 x.index).wf=true) (hdis:OutP (· ∉ rfoot b a) am x.ents.length) :
    Calls Tryz.prog 87 #[.pointer (some ⟨b,0,none⟩),x.val am cm] w (RetRR (m.add x).1 (m.add x).2 b a m w):=by
  obtain ⟨xk,xf,xd,xt,xi,xl,xc,xy,xe⟩:=x
  simp only at hl hs hwi hdis
  show Calls _ _ #[.pointer (some ⟨b,0,none⟩),.agg #[.int .i64 xk,.int .i64 xf,.int .i64 xd,.int .i64 xt,.int .i64 xi,.int .i64 xl,.int .i64 xc,.bool xy,.slice am xe.length cm]] _ _
  have hal:=zC w (.cells #[.int .i64 xk,.int .i64 xf,.int .i64 xd,.int .i64 xt,.int .i64 xi,.int .i64 xl,.int .i64 xc,.bool xy,.slice am xe.length cm] 78)
  have g0:=zG w (.cells #[.int .i64 xk,.int .i64 xf,.int .i64 xd,.int .i64 xt,.int .i64 xi,.int .i64 xl,.int .i64 xc,.bool xy,.slice am xe.length cm] 78)
  have HS:Hid (∀ W,Below w.heap.size w W → Calls Tryz.prog 78 #[.pointer (some ⟨b,0,none⟩),.int .i64 3,.int .i64 xf] W fun e w'=>e=.returned (.agg #[.int .i64 3,.int .i64 m.id,.int .i64 xf,.int .i64 m.term,.int .i64 0,.int .i64 0,.int .i64 0,.bool false,.slice none 0 0])∧Below W.heap.size W w'):=fun W hW=>rsay_any (h.below hW) 3 xf
  have HO:=Lib.hid h
  have HLI:=Lib.hid hl
  have HRES:Hid (m.add ⟨xk,xf,xd,xt,xi,xl,xc,xy,xe⟩=if xt<m.term then (m,[m.say 3 xf]) else if m.role=2 then (m,[]) else
    if (addF 0 0 m.log xi xl xe).2.2.2≠0∨(xe.any fun e=>decide (xt<e.1))=true then (m.follow,[{ m.say 3 xf with index:=(lastF 0 0 m.log).1 }])
    else (m.added' (addF 0 0 m.log xi xl xe).2.2.1 ⟨xk,xf,xd,xt,xi,xl,xc,xy,xe⟩,[{ m.say 3 xf with yes:=true,index:=xi+xe.length }])):=rfl
  obtain ⟨x0,x1,x2,x3,x4,x5,x6,x7,x8⟩:=box9 g0
  have flt:=zB g0
  go_enter Tryz.func87,Tryz.ntmps87
  go_upto_region 2 with (go_at_call 78;refine (HS.out _ hal).mono ?_;rintro e w1 ⟨rfl,hb1⟩)
  have hw1:=hal.trans (hb1.mono hal.size)
  have gX0:=zA hb1 g0
  have hwA:=hw1.trans ((zC w1 (.cells #[.int .i64 3,.int .i64 m.id,.int .i64 xf,.int .i64 m.term,.int .i64 0,.int .i64 0,.int .i64 0,.bool false,.slice none 0 0] 78)).mono hw1.size)
  have gX:=zA (zC w1 (.cells #[.int .i64 3,.int .i64 m.id,.int .i64 xf,.int .i64 m.term,.int .i64 0,.int .i64 0,.int .i64 0,.bool false,.slice none 0 0] 78)) gX0
  have G1:=zG w1 (.cells #[.int .i64 3,.int .i64 m.id,.int .i64 xf,.int .i64 m.term,.int .i64 0,.int .i64 0,.int .i64 0,.bool false,.slice none 0 0] 78)
  have hnx:=h.new (Nat.le_refl w.heap.size)
  have hn1:w1.heap.size ∉ rfoot b a:=h.new hw1.size
  have hF1:w.heap.size<w1.heap.size:=zB gX0
  clear hb1 hw1 gX0 g0 hal x0 x1 x2 x3 x4 x5 x6 x7 x8 flt hl h
  generalize w1.alloc (.cells #[.int .i64 3,.int .i64 m.id,.int .i64 xf,.int .i64 m.term,.int .i64 0,.int .i64 0,.int .i64 0,.bool false,.slice none 0 0] 78)=W1 at *
  generalize w1.heap.size=F1 at *
  have hbF:b≠F1:=fun e=>hn1 (by simp [rfoot,e])
  have hbX:b≠w.heap.size:=fun e=>hnx (by simp [rfoot,e])
  have H1:=HO.out.below hwA
  have S1:RStep w b a m W1 a m:=.of_below hwA
  obtain ⟨x0,x1,x2,x3,x4,x5,x6,x7,x8⟩:=box9 gX
  obtain ⟨y0,y1,y2,y3,y4,y5,y6,y7,y8⟩:=box9 G1
  obtain ⟨c0,c1,c2,c3,c4,c5,c6,c7,c8,c9,c10,c11,hlt⟩:=zBA H1.blk
  have flt:=zB gX
  have glt:=zB G1
  by_cases ht:xt<m.term
  · rw [if_pos ht] at HRES
    have HR2:=HRES
    go_quiet (fail)
    go_wp2
    go_ret
    rw [HR2.out]
    exact RetRR.one (w1:=W1.drewN nq) (m.say 3 xf) (H1.many _) (S1.below (Below.many (zK _) _)) (World.ownsRow_nil _ _ _ _) rfl rfl
  have ht2:m.term≤xt:=by omega
  rw [if_neg ht] at HRES
  clear ht
  by_cases hr:m.role=2
  · rw [if_pos hr] at HRES
    have HR2:=HRES
    have hr1:(m.role == 2)=true:=by simpa using hr
    clear hr
    go_quiet (fail)
    go_wp2
    go_ret
    rw [HR2.out]
    exact RetRR.nil (H1.many _) (S1.below (Below.many (zK _) _))
  rw [if_neg hr] at HRES
  have hr1:(m.role == 2)=false:=by simpa using hr
  clear hr
  obtain ⟨fr0,fr1,fr2,fr3,fr4,fr5,fr6,fr7,fr8,fr9,fr10,fr11⟩:=fro12 H1.blk
  go_quiet (fail)
  go_wp2
  have hC:Chg (rfoot b a) W1 ((W1.drewN nq).setCell ⟨b,7,none⟩ (.int .i64 0)):=((Chg.refl _ _).many nq).setCell (.inl (by simp [rfoot])) 7 _
  have H2:RMAt ((W1.drewN nq).setCell ⟨b,7,none⟩ (.int .i64 0)) b a m.follow:=(H1.many nq).store 7 _ rfl rfl rfl rfl
  have S2:RStep w b a m ((W1.drewN nq).setCell ⟨b,7,none⟩ (.int .i64 0)) a m.follow:=(S1.below (Below.many (zK _) nq)).set (by simp [rfoot]) 7 _ rfl
  have gX2:=hC.keep gX hnx
  have G2:=hC.keep G1 hn1
  have hl2:=Lib.hid ((HLI.out.below hwA).chgO hC hdis)
  clear c0 c1 c2 c3 c4 c5 c6 c7 c8 c9 c10 c11 hlt x0 x1 x2 x3 x4 x5 x6 x7 x8 flt y0 y1 y2 y3 y4 y5 y6 y7 y8 glt fr0 fr1 fr2 fr3 fr4 fr5 fr6 fr7 fr8 fr9 fr10 fr11 H1 S1 gX G1 hC
  have hz2:W1.heap.size≤((W1.drewN nq).setCell ⟨b,7,none⟩ (.int .i64 0)).heap.size:=by simp [World.setCell]
  have hwz:w.heap.size≤W1.heap.size:=hwA.size
  generalize (W1.drewN nq).setCell ⟨b,7,none⟩ (.int .i64 0)=W2 at *
  have H2e:RMAt W2 b a { m with role:=0 }:=H2
  obtain ⟨x0,x1,x2,x3,x4,x5,x6,x7,x8⟩:=box9 gX2
  obtain ⟨c0,c1,c2,c3,c4,c5,c6,c7,c8,c9,c10,c11,hlt⟩:=zBA H2e.blk
  have flt:=zB gX2
  have HA2:Hid (∀ W,Below W2.heap.size W2 W → Calls Tryz.prog 115 #[logV 0 0 a.la m.log.length a.lc,.int .i64 xi,.int .i64 xl,.slice am xe.length cm] W (RetLog (addF 0 0 m.log xi xl xe) W)):=fun W hW=>refAdd_any 0 0 a.la a.lc m.log xi xl hwi am cm xe W (H2e.below hW).log (hl2.out.below hW) hs
  have HAF:Hid ((addF 0 0 m.log xi xl xe).2.2.2=0 → (addF 0 0 m.log xi xl xe).1=0∧(addF 0 0 m.log xi xl xe).2.1=0∧(addF 0 0 m.log xi xl xe).2.2.1.length≤64∧0≤xi∧xi+xe.length≤64):=fun he=>by
    obtain ⟨_,_,hi0,hi1,_,hm6,hR⟩:=addF_ok he
    have hlf:=(mergeL_facts m.log xe xi.toNat (by omega)).1
    rw [hR]
    exact ⟨rfl,rfl,hm6,hi0,by omega⟩
  generalize addF 0 0 m.log xi xl xe=R at HRES HA2 HAF
  obtain ⟨rb,rt,rl,re⟩:=R
  simp only at HRES HA2 HAF
  have HLF:Hid (OutP (·≠F1) a.la m.log.length):=(HO.out.log.ltO).mono fun x hx e=>by have h9:x<w.heap.size:=hx;omega
  have hneB:b≠W2.heap.size:=by have:=zB H2e.blk;omega
  have hneX:w.heap.size≠W2.heap.size:=by omega
  go_cut [6,7] (fun p q wx=>∃ A2 c2 X,p=.pointer (some ⟨X,0,none⟩)∧q=.int .i64 re∧wx.heap[X]?=some (.cells #[.int .i64 rb,.int .i64 rt,.slice A2 rl.length c2] 55)∧LogIn wx A2 c2 rl∧OutP (W2.heap.size≤·) A2 rl.length∧Below W2.heap.size W2 wx)
  case first =>
    go_region_held3 (fun W=>W.cell? ⟨b,4,none⟩=some (.int .i64 0)∧W.cell? ⟨b,5,none⟩=some (.int .i64 0)∧W.cell? ⟨b,6,none⟩=some (.slice a.la m.log.length a.lc)∧W.cell? ⟨w.heap.size,4,none⟩=some (.int .i64 xi)∧W.cell? ⟨w.heap.size,5,none⟩=some (.int .i64 xl)∧W.cell? ⟨w.heap.size,8,none⟩=some (.slice am xe.length cm)) (first | with_reducible exact ⟨c4,c5,c6,x4,x5,x8⟩ | with_reducible exact ⟨d4,d5,d6,j4,j5,j8⟩ | with_reducible exact ⟨k4,k5,k6,i4,i5,i8⟩ | go_keep) ((first
      | (go_at_call 115;refine (HA2.out _ (zK W2).drew).mono ?_;rintro e w3 ⟨A2,c2,rfl,hl3,hf3,hb3⟩;have hbW:Below W2.heap.size W2 W2.drew:=(zK W2).drew;have hb23:=hbW.trans (hb3.mono hbW.size);have H3:=H2e.below hb23;have gX3:=zA hb23 gX2;obtain ⟨d0,d1,d2,d3,d4,d5,d6,d7,d8,d9,d10,d11,dlt⟩:=zBA H3.blk;obtain ⟨j0,j1,j2,j3,j4,j5,j6,j7,j8⟩:=box9 gX3)
      | (go_at_call 115;refine (HA2.out _ (zC W2 (.cells #[.int .i64 0,.int .i64 0,.slice none 0 0] 55)).drew).mono ?_;rintro e w3 ⟨A2,c2,rfl,hl3,hf3,hb3⟩;have hbW:Below W2.heap.size W2 (W2.alloc (.cells #[.int .i64 0,.int .i64 0,.slice none 0 0] 55)).drew:=(zC W2 (.cells #[.int .i64 0,.int .i64 0,.slice none 0 0] 55)).drew;have gL3:=zA hb3 (zM (zG W2 (.cells #[.int .i64 0,.int .i64 0,.slice none 0 0] 55)));obtain ⟨l0,l1,l2,lf0,lf1,lf2,llt⟩:=box3 gL3;have hb23:=hbW.trans (hb3.mono hbW.size);have H3:=H2e.below hb23;have gX3:=zA hb23 gX2;obtain ⟨d0,d1,d2,d3,d4,d5,d6,d7,d8,d9,d10,d11,dlt⟩:=zBA H3.blk;obtain ⟨j0,j1,j2,j3,j4,j5,j6,j7,j8⟩:=box9 gX3;obtain ⟨k0,k1,k2,k3,k4,k5,k6,k7,k8,k9,k10,k11,klt⟩:=zBA (zBC H3.blk hneB (.int .i64 rb) (.int .i64 rt) (.slice A2 rl.length c2));obtain ⟨i0,i1,i2,i3,i4,i5,i6,i7,i8⟩:=box9 (zBC gX3 hneX (.int .i64 rb) (.int .i64 rt) (.slice A2 rl.length c2)))))
    all_goals (go_wp2_with fail;go_meet)
    all_goals (first
      | exact ⟨A2,c2,w3.heap.size,rfl,rfl,zG w3 _,hl3.below (zC w3 _),(fun h b' o ha=>Nat.le_trans hbW.size (hf3 h b' o ha)),hb23.alloc hb23.size _⟩
      | exact ⟨A2,c2,W2.heap.size,rfl,rfl,zZ gL3 (.int .i64 rb) (.int .i64 rt) (.slice A2 rl.length c2),hl3.chgO (S:=[W2.heap.size]) ((((Chg.refl _ _).setCell (.inl (by simp)) 0 _).setCell (.inl (by simp)) 1 _).setCell (.inl (by simp)) 2 _) (fun h b' o ha hc=>by have h1:=hf3 h b' o ha;have h2:W2.heap.size<(W2.alloc (.cells #[.int .i64 0,.int .i64 0,.slice none 0 0] 55)).heap.size:=(by simp);simp only [List.mem_singleton] at hc;rw [hc] at h1;exact absurd h1 (Nat.not_le_of_lt h2)),(fun h b' o ha=>Nat.le_trans hbW.size (hf3 h b' o ha)),zO hb23 (Nat.le_refl _) (.int .i64 rb) (.int .i64 rt) (.slice A2 rl.length c2)⟩)
  case rest =>
    obtain ⟨A2,c2,X,rfl,rfl,gL,hl4,hf4,hb4⟩:=hcut
    clear c0 c1 c3 c4 c5 c6 c7 c8 c9 c10 c11 hlt x0 x1 x2 x3 x4 x5 x6 x7 x8 flt
    have gX4:=zA hb4 gX2
    have G4:=zA hb4 G2
    have HFI:Hid (Calls Tryz.prog 116 #[.agg #[.int .i64 xk,.int .i64 xf,.int .i64 xd,.int .i64 xt,.int .i64 xi,.int .i64 xl,.int .i64 xc,.bool xy,.slice am xe.length cm]] wc fun e w'=>e=.returned (.bool (!(xe.any fun e=>decide (xt<e.1))))∧Below wc.heap.size wc w'):=rfits_any ⟨xk,xf,xd,xt,xi,xl,xc,xy,xe⟩ am cm (hl2.out.below hb4) hs
    have HLA:Hid (∀ W,Below W2.heap.size W2 W → Calls Tryz.prog 75 #[logV 0 0 a.la m.log.length a.lc] W fun e w'=>e=.returned (.tuple #[.int .i64 (lastF 0 0 m.log).1,.int .i64 (lastF 0 0 m.log).2])∧Below W.heap.size W w'):=fun W hW=>zBX 0 0 a.la a.lc m.log W (H2e.below hW).log
    generalize (lastF 0 0 m.log).1=LF1 at HRES HLA
    generalize (lastF 0 0 m.log).2=LF2 at HLA
    generalize (xe.any fun e=>decide (xt<e.1))=od at HRES HFI
    obtain ⟨x0,x1,x2,x3,x4,x5,x6,x7,x8⟩:=box9 gX4
    have flt:=zB gX4
    have hhd:=hl4
    clear hhd
    by_cases hre:re=0
    · subst hre
      obtain ⟨hrb,hrt,hl64,hxi0,hxi1⟩:=HAF.out rfl
      subst hrb
      subst hrt
      cases od with
      | true =>
        have HR2:=Lib.hid (HRES.out.trans (if_pos (.inr rfl)))
        go_wp2_with (first
          | (go_at_call 116;refine HFI.out.mono ?_;rintro e w5 ⟨rfl,hb5⟩;have hb25:=hb4.trans (hb5.mono hb4.size);have G5:=zA hb5 G4;have gL5:=zA hb5 gL;have gX5:=zA hb5 gX4;have H5:=H2e.below hb25;obtain ⟨y0,y1,y2,y3,y4,y5,y6,y7,y8⟩:=box9 G5;obtain ⟨fs0,fs1,fs2,fs3,fs4,fs5,fs6,fs7,fs8,fs9⟩:=fro9 G5;obtain ⟨j0,j1,j2,j3,j4,j5,j6,j7,j8⟩:=box9 gX5;obtain ⟨l0,l1,l2,lf0,lf1,lf2,llt⟩:=box3 gL5;obtain ⟨d0,d1,d2,d3,d4,d5,d6,d7,d8,d9,d10,d11,dlt⟩:=zBA H5.blk;obtain ⟨fr0,fr1,fr2,fr3,fr4,fr5,fr6,fr7,fr8,fr9,fr10,fr11⟩:=fro12 H5.blk;have glt5:=zB G5;have xlt5:=zB gX5;have HLA5:=Lib.hid (HLA.out w5 hb25))
          | (go_at_call 75;refine HLA5.out.mono ?_;rintro e w6 ⟨rfl,hb6⟩;have H6:=H5.below hb6;have G6:=zA hb6 G5;obtain ⟨q0,q1,q2,q3,q4,q5,q6,q7,q8⟩:=box9 G6;obtain ⟨gs0,gs1,gs2,gs3,gs4,gs5,gs6,gs7,gs8,gs9⟩:=fro9 G6;have glt6:=zB G6))
        go_ret
        rw [HR2.out]
        have hb26:=hb25.trans (hb6.mono hb25.size)
        have S6:RStep w b a m w6 a m.follow:=S2.below hb26
        exact RetRR.one (w1:=w6.setCell ⟨F1,4,none⟩ (.int .i64 LF1)) { m.say 3 xf with index:=LF1 } ((H2.below hb26).far hn1 HLF.out 4 _) (S6.far (Nat.le_of_lt hF1) 4 _) (World.ownsRow_nil _ _ _ _) (by simp only [szSet]) rfl
      | false =>
        have HR2:=Lib.hid (HRES.out.trans (if_neg (by simp)))
        go_wp2_with (go_at_call 116;refine HFI.out.mono ?_;rintro e w5 ⟨rfl,hb5⟩;have hb25:=hb4.trans (hb5.mono hb4.size);have G5:=zA hb5 G4;have gL5:=zA hb5 gL;have gX5:=zA hb5 gX4;have H5:=H2e.below hb25;obtain ⟨y0,y1,y2,y3,y4,y5,y6,y7,y8⟩:=box9 G5;obtain ⟨fs0,fs1,fs2,fs3,fs4,fs5,fs6,fs7,fs8,fs9⟩:=fro9 G5;obtain ⟨j0,j1,j2,j3,j4,j5,j6,j7,j8⟩:=box9 gX5;obtain ⟨l0,l1,l2,lf0,lf1,lf2,llt⟩:=box3 gL5;obtain ⟨d0,d1,d2,d3,d4,d5,d6,d7,d8,d9,d10,d11,dlt⟩:=zBA H5.blk;obtain ⟨fr0,fr1,fr2,fr3,fr4,fr5,fr6,fr7,fr8,fr9,fr10,fr11⟩:=fro12 H5.blk;have glt5:=zB G5;have xlt5:=zB gX5;have HLA5:=Lib.hid (HLA.out w5 hb25))
        all_goals (
          have hl5:LogIn w5 A2 c2 rl:=hl4.below hb5
          have hF2:F1<W2.heap.size:=zB G2
          obtain ⟨M6,S6⟩:=H2.relog hb25 hl5 hf4
          have hn6:F1 ∉ rfoot b { a with la:=A2,lc:=c2 }:=hn1
          have hA6:OutP (·≠F1) A2 rl.length:=OutP.mono hf4 fun x hx e=>by have h9:W2.heap.size≤x:=hx;omega
          have M7:=(M6.far hn6 hA6 7 (.bool true)).far hn6 hA6 4 (.int .i64 (xi+xe.length))
          have S7:=((S2.trans S6).far (Nat.le_of_lt hF1) 7 (.bool true)).far (Nat.le_of_lt hF1) 4 (.int .i64 (xi+xe.length))
          go_ret
          rw [HR2.out]
          by_cases g1:xi+(xe.length:Int)<xc
          · by_cases g2:m.settled<xi+(xe.length:Int)
            · first
                | (exfalso;omega)
                | (have hsame:(m.added' rl ⟨xk,xf,xd,xt,xi,xl,xc,xy,xe⟩)={ m.follow with log:=rl,settled:=xi+(xe.length:Int) }:=(by simp only [Mb.added',Mb.follow];rw [show max m.settled (min xc (xi+(xe.length:Int)))=xi+(xe.length:Int) by omega]);have M8:RMAt ((((relW w5 b A2 rl.length c2).setCell ⟨F1,7,none⟩ (.bool true)).setCell ⟨F1,4,none⟩ (.int .i64 (xi+xe.length))).setCell ⟨b,8,none⟩ (.int .i64 (xi+(xe.length:Int)))) b { a with la:=A2,lc:=c2 } { m.follow with log:=rl,settled:=xi+(xe.length:Int) }:=M7.store 8 _ rfl rfl rfl rfl;have S8:RStep w b a m ((((relW w5 b A2 rl.length c2).setCell ⟨F1,7,none⟩ (.bool true)).setCell ⟨F1,4,none⟩ (.int .i64 (xi+xe.length))).setCell ⟨b,8,none⟩ (.int .i64 (xi+(xe.length:Int)))) { a with la:=A2,lc:=c2 } { m.follow with log:=rl,settled:=xi+(xe.length:Int) }:=S7.set (by simp [rfoot]) 8 _ rfl;rw [← hsame] at M8 S8;exact RetRR.one (w1:=(((relW w5 b A2 rl.length c2).setCell ⟨F1,7,none⟩ (.bool true)).setCell ⟨F1,4,none⟩ (.int .i64 (xi+xe.length))).setCell ⟨b,8,none⟩ (.int .i64 (xi+(xe.length:Int)))) { m.say 3 xf with yes:=true,index:=xi+xe.length } M8 S8 (World.ownsRow_nil _ _ _ _) (by simp only [szSet]) rfl)
            · first
                | (exfalso;omega)
                | (have hsame:(m.added' rl ⟨xk,xf,xd,xt,xi,xl,xc,xy,xe⟩)={ m.follow with log:=rl,settled:=m.settled }:=(by simp only [Mb.added',Mb.follow];rw [show max m.settled (min xc (xi+(xe.length:Int)))=m.settled by omega]);have M8:RMAt (((relW w5 b A2 rl.length c2).setCell ⟨F1,7,none⟩ (.bool true)).setCell ⟨F1,4,none⟩ (.int .i64 (xi+xe.length))) b { a with la:=A2,lc:=c2 } { m.follow with log:=rl,settled:=m.settled }:=M7;have S8:RStep w b a m (((relW w5 b A2 rl.length c2).setCell ⟨F1,7,none⟩ (.bool true)).setCell ⟨F1,4,none⟩ (.int .i64 (xi+xe.length))) { a with la:=A2,lc:=c2 } { m.follow with log:=rl,settled:=m.settled }:=S7;rw [← hsame] at M8 S8;exact RetRR.one (w1:=((relW w5 b A2 rl.length c2).setCell ⟨F1,7,none⟩ (.bool true)).setCell ⟨F1,4,none⟩ (.int .i64 (xi+xe.length))) { m.say 3 xf with yes:=true,index:=xi+xe.length } M8 S8 (World.ownsRow_nil _ _ _ _) (by simp only [szSet]) rfl)
          · by_cases g2:m.settled<xc
            · first
                | (exfalso;omega)
                | (have hsame:(m.added' rl ⟨xk,xf,xd,xt,xi,xl,xc,xy,xe⟩)={ m.follow with log:=rl,settled:=xc }:=(by simp only [Mb.added',Mb.follow];rw [show max m.settled (min xc (xi+(xe.length:Int)))=xc by omega]);have M8:RMAt ((((relW w5 b A2 rl.length c2).setCell ⟨F1,7,none⟩ (.bool true)).setCell ⟨F1,4,none⟩ (.int .i64 (xi+xe.length))).setCell ⟨b,8,none⟩ (.int .i64 (xc))) b { a with la:=A2,lc:=c2 } { m.follow with log:=rl,settled:=xc }:=M7.store 8 _ rfl rfl rfl rfl;have S8:RStep w b a m ((((relW w5 b A2 rl.length c2).setCell ⟨F1,7,none⟩ (.bool true)).setCell ⟨F1,4,none⟩ (.int .i64 (xi+xe.length))).setCell ⟨b,8,none⟩ (.int .i64 (xc))) { a with la:=A2,lc:=c2 } { m.follow with log:=rl,settled:=xc }:=S7.set (by simp [rfoot]) 8 _ rfl;rw [← hsame] at M8 S8;exact RetRR.one (w1:=(((relW w5 b A2 rl.length c2).setCell ⟨F1,7,none⟩ (.bool true)).setCell ⟨F1,4,none⟩ (.int .i64 (xi+xe.length))).setCell ⟨b,8,none⟩ (.int .i64 (xc))) { m.say 3 xf with yes:=true,index:=xi+xe.length } M8 S8 (World.ownsRow_nil _ _ _ _) (by simp only [szSet]) rfl)
            · first
                | (exfalso;omega)
                | (have hsame:(m.added' rl ⟨xk,xf,xd,xt,xi,xl,xc,xy,xe⟩)={ m.follow with log:=rl,settled:=m.settled }:=(by simp only [Mb.added',Mb.follow];rw [show max m.settled (min xc (xi+(xe.length:Int)))=m.settled by omega]);have M8:RMAt (((relW w5 b A2 rl.length c2).setCell ⟨F1,7,none⟩ (.bool true)).setCell ⟨F1,4,none⟩ (.int .i64 (xi+xe.length))) b { a with la:=A2,lc:=c2 } { m.follow with log:=rl,settled:=m.settled }:=M7;have S8:RStep w b a m (((relW w5 b A2 rl.length c2).setCell ⟨F1,7,none⟩ (.bool true)).setCell ⟨F1,4,none⟩ (.int .i64 (xi+xe.length))) { a with la:=A2,lc:=c2 } { m.follow with log:=rl,settled:=m.settled }:=S7;rw [← hsame] at M8 S8;exact RetRR.one (w1:=((relW w5 b A2 rl.length c2).setCell ⟨F1,7,none⟩ (.bool true)).setCell ⟨F1,4,none⟩ (.int .i64 (xi+xe.length))) { m.say 3 xf with yes:=true,index:=xi+xe.length } M8 S8 (World.ownsRow_nil _ _ _ _) (by simp only [szSet]) rfl))
    · have HR2:=Lib.hid (HRES.out.trans (if_pos (.inl hre)))
      have hre1:(re != 0)=true:=by simpa using hre
      clear hre
      go_wp2_with (first
        | (go_at_call 116;refine HFI.out.mono ?_;rintro e w5 ⟨rfl,hb5⟩;have hb25:=hb4.trans (hb5.mono hb4.size);have G5:=zA hb5 G4;have gL5:=zA hb5 gL;have gX5:=zA hb5 gX4;have H5:=H2e.below hb25;obtain ⟨y0,y1,y2,y3,y4,y5,y6,y7,y8⟩:=box9 G5;obtain ⟨fs0,fs1,fs2,fs3,fs4,fs5,fs6,fs7,fs8,fs9⟩:=fro9 G5;obtain ⟨j0,j1,j2,j3,j4,j5,j6,j7,j8⟩:=box9 gX5;obtain ⟨l0,l1,l2,lf0,lf1,lf2,llt⟩:=box3 gL5;obtain ⟨d0,d1,d2,d3,d4,d5,d6,d7,d8,d9,d10,d11,dlt⟩:=zBA H5.blk;obtain ⟨fr0,fr1,fr2,fr3,fr4,fr5,fr6,fr7,fr8,fr9,fr10,fr11⟩:=fro12 H5.blk;have glt5:=zB G5;have xlt5:=zB gX5;have HLA5:=Lib.hid (HLA.out w5 hb25))
        | (go_at_call 75;refine HLA5.out.mono ?_;rintro e w6 ⟨rfl,hb6⟩;have H6:=H5.below hb6;have G6:=zA hb6 G5;obtain ⟨q0,q1,q2,q3,q4,q5,q6,q7,q8⟩:=box9 G6;obtain ⟨gs0,gs1,gs2,gs3,gs4,gs5,gs6,gs7,gs8,gs9⟩:=fro9 G6;have glt6:=zB G6))
      go_ret
      rw [HR2.out]
      have hb26:=hb25.trans (hb6.mono hb25.size)
      have S6:RStep w b a m w6 a m.follow:=S2.below hb26
      exact RetRR.one (w1:=w6.setCell ⟨F1,4,none⟩ (.int .i64 LF1)) { m.say 3 xf with index:=LF1 } ((H2.below hb26).far hn1 HLF.out 4 _) (S6.far (Nat.le_of_lt hF1) 4 _) (World.ownsRow_nil _ _ _ _) (by simp only [szSet]) rfl
end
section
variable {w:World} {b:Nat} {a:RA} {m:Mb}
set_option maxRecDepth 100000 in
set_option maxHeartbeats 6400000 in
theorem rhear_no (h : RMAt w b a m) (hok : MbOk m) (x : Ms) (am : Option Addr) (cm : Nat) (hh : ¬ m.hears x = true) :
    Calls Tryz.prog 49 #[.pointer (some ⟨b,0,none⟩),x.val am cm] w (RetRR (m.hear x).1 (m.hear x).2 b a m w):=by
  obtain ⟨xk,xf,xd,xt,xi,xl,xc,xy,xe⟩:=x
  show Calls _ _ #[.pointer (some ⟨b,0,none⟩),.agg #[.int .i64 xk,.int .i64 xf,.int .i64 xd,.int .i64 xt,.int .i64 xi,.int .i64 xl,.int .i64 xc,.bool xy,.slice am xe.length cm]] _ _
  have hal:=zC w (.cells #[.int .i64 xk,.int .i64 xf,.int .i64 xd,.int .i64 xt,.int .i64 xi,.int .i64 xl,.int .i64 xc,.bool xy,.slice am xe.length cm] 78)
  have g0:=zG w (.cells #[.int .i64 xk,.int .i64 xf,.int .i64 xd,.int .i64 xt,.int .i64 xi,.int .i64 xl,.int .i64 xc,.bool xy,.slice am xe.length cm] 78)
  have H1:=h.below hal
  have S1:RStep w b a m (w.alloc (.cells #[.int .i64 xk,.int .i64 xf,.int .i64 xd,.int .i64 xt,.int .i64 xi,.int .i64 xl,.int .i64 xc,.bool xy,.slice am xe.length cm] 78)) a m:=.of_below hal
  obtain ⟨x0,x1,x2,x3,x4,x5,x6,x7,x8⟩:=box9 g0
  have flt:=zB g0
  obtain ⟨c0,c1,c2,c3,c4,c5,c6,c7,c8,c9,c10,c11,hlt⟩:=zBA H1.blk
  have n16:=hok.n16
  have HR2:Hid (m.hear ⟨xk,xf,xd,xt,xi,xl,xc,xy,xe⟩=(m,[])):=if_neg hh
  have hcase:(xd != m.id)=true∨((xd != m.id)=false∧(xf == m.id)=true)∨((xd != m.id)=false∧(xf == m.id)=false∧xf<1)∨((xd != m.id)=false∧(xf == m.id)=false∧1≤xf∧(m.prog.length:Int)<xf)∨((xd != m.id)=false∧(xf == m.id)=false∧1≤xf∧xf≤(m.prog.length:Int)∧xt<1)∨((xd != m.id)=false∧(xf == m.id)=false∧1≤xf∧xf≤(m.prog.length:Int)∧1≤xt∧1073741824<xt)∨((xd != m.id)=false∧(xf == m.id)=false∧1≤xf∧xf≤(m.prog.length:Int)∧1≤xt∧xt≤1073741824∧xk<0)∨((xd != m.id)=false∧(xf == m.id)=false∧1≤xf∧xf≤(m.prog.length:Int)∧1≤xt∧xt≤1073741824∧0≤xk∧3<xk):=by
    unfold Mb.hears at hh
    rw [decide_eq_true_eq] at hh
    simp only [bne_iff_ne,bne_eq_false_iff_eq,beq_iff_eq,beq_eq_false_iff_ne]
    simp only at hh
    by_cases q1:xd=m.id
    · by_cases q2:xf=m.id
      · exact .inr (.inl ⟨q1,q2⟩)
      · right;right
        omega
    · exact .inl q1
  clear hh
  rcases hcase with e1 | ⟨e1,e2⟩ | ⟨e1,e2,e3⟩ | ⟨e1,e2,e3,e4⟩ | ⟨e1,e2,e3,e4,e5⟩ | ⟨e1,e2,e3,e4,e5,e6⟩ | ⟨e1,e2,e3,e4,e5,e6,e7⟩ | ⟨e1,e2,e3,e4,e5,e6,e7,e8⟩
  all_goals (
    go_enter Tryz.func49,Tryz.ntmps49
    go_wp2
    go_quiet (fail)
    go_wp2
    go_ret
    rw [HR2.out]
    exact RetRR.nil (H1.many _) (S1.below (Below.many (zK _) _)))
end
end Go.Proofs.YtnljdkglncmfaaaGreat
