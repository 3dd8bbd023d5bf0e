/-
  Part Gc of the proof.
-/
import Derived.Test.YtnljdkglncmfaaaGreatGb
import Derived.Test.YtnljdkglncmfaaaGreatRa
import Derived.Test.YtnljdkglncmfaaaGreatRgO
namespace Go.Proofs.YtnljdkglncmfaaaGreat
open Go.RowKit
set_option linter.unusedVariables false
theorem RGAt.didX {Q:Nat → Prop} {w:World} {G:Nat} {L:RL} {g:Gr} (h:RGAt Q w G L g) {i:Nat} {r:RM} {p:Mb × Vt} (hr:L.mem[i]?=some r) (hp:g.ms[i]?=some p) (hQ:∀ x,w.heap.size≤x → Q x) {m':Mb} {w':World} {a':RA} {B:Nat} (hM:RMAt w' r.b a' m') (hS:RStep w r.b r.a p.1 w' a' m') (hB:w.heap.size≤B) (hF:∀ x ∈ rfoot r.b a',x<B) :
    ∃ L',RGAt Q w' G L' ⟨g.ms.set i (m',p.2),g.net⟩∧RGStep w G L w' L'∧∀ x ∈ rall G L',x<B:=by
  obtain ⟨R1,R2⟩:=h.memTo hr hp hM hS hQ
  refine ⟨_,R1,R2,fun x hx => ?_⟩
  rcases rall_cases hx with rfl | rfl | rfl | hx | ⟨s,hs,hx⟩
  · exact Nat.lt_of_lt_of_le (h.lt _ (rall_G _ _)) hB
  · exact Nat.lt_of_lt_of_le (h.lt _ (rall_mo G L)) hB
  · exact Nat.lt_of_lt_of_le (h.lt _ (rall_vo G L)) hB
  · exact Nat.lt_of_lt_of_le (h.lt _ (rall_na hx)) hB
  · rcases mem_setR hs with e | hs1
    · rw [e] at hx
      rcases zCU hx with e1 | hx1
      · rw [e1];exact Nat.lt_of_lt_of_le (h.lt _ (zBZ (List.mem_of_getElem? hr) (rft_v r))) hB
      · exact hF x hx1
    · exact Nat.lt_of_lt_of_le (h.lt _ (zBZ hs1 hx)) hB
theorem rgacts_said {Q:Nat → Prop} {w:World} {G:Nat} {L:RL} {g:Gr} (hgo:GrOk g) {i:Nat} {p:Mb × Vt} (hp:g.ms[i]?=some p) {m':Mb} (hIN:InGr g.ms.length m') (h1:RGAt Q w G L ⟨g.ms.set i (m',p.2),g.net⟩) {said:List Ms} {A:Option Addr} {c B:Nat} {sl:List (Option Addr × Nat)} (hms:MsAt w B A c said sl) (hBr:∀ x ∈ rall G L,x<B) (hQ:∀ x,w.heap.size≤x → Q x) (hBQ:∀ x,B≤x → Q x) (hsl:said.length≤16) (hnet:g.net.length≤1000000) :
    Calls Tryz.prog 45 #[.pointer (some ⟨G,0,none⟩),.int .i64 ((i:Int)+1),.slice A said.length c] w (RetRG Q (g.acts ((i:Int)+1) m' said) G L (.tuple #[]) w):=by
  have hi:i<g.ms.length:=(List.getElem?_eq_some_iff.1 hp).1
  have hpo:=hgo.pair i p hp
  have hag:=(hpo.again hi hgo.n16).1
  have hll:(g.ms.set i (m',p.2)).length=g.ms.length:=by simp
  have:=rgacts_any h1 i (p:=(m',p.2)) (by rw [List.getElem?_set_self hi]) (by rw [hll];exact hgo.n16) hIN.mb hIN.wf hpo.vt hpo.le (by rw [hll];exact hag) hms hBr hQ hBQ (by omega) hnet
  rwa [actsM_eq hp] at this
section
variable {Q:Nat → Prop} {w:World} {G:Nat} {L:RL} {g:Gr}
set_option maxRecDepth 100000 in
set_option maxHeartbeats 6400000 in
theorem rgpropose_any (h:RGAt Q w G L g) (i:Nat) {p:Mb × Vt} (hp:g.ms[i]?=some p) (hgo:GrOk g) (hQ:∀ x,w.heap.size≤x → Q x) (hnet:g.net.length≤1000000) (ik ib ic:Int) :
    Calls Tryz.prog 47 #[.pointer (some ⟨G,0,none⟩),itV ik ((i:Int)+1) ib ic] w (RetRG Q (g.propose ((i:Int)+1) ib ic).1 G L (.int .i64 (g.propose ((i:Int)+1) ib ic).2) w):=by
  have hal:=zC w (.cells #[.int .i64 ik,.int .i64 ((i:Int)+1),.int .i64 ib,.int .i64 ic] 31)
  have g0:=zG w (.cells #[.int .i64 ik,.int .i64 ((i:Int)+1),.int .i64 ib,.int .i64 ic] 31)
  have H1:=h.below hal
  have S1:RGStep w G L (w.alloc (.cells #[.int .i64 ik,.int .i64 ((i:Int)+1),.int .i64 ib,.int .i64 ic] 31)) L:=.of_below hal
  obtain ⟨i0,i1,i2,i3,if1,ilt⟩:=box4 g0
  by_cases hbad:min ib ic<0∨1073741824<max ib ic
  · have HR2:Hid (g.propose ((i:Int)+1) ib ic=(g,1)):=if_pos hbad
    have hcase:ib<0∨(0≤ib∧1073741824<ib)∨(0≤ib∧ib≤1073741824∧ic<0)∨(0≤ib∧ib≤1073741824∧0≤ic∧1073741824<ic):=by omega
    clear hbad
    rcases hcase with e1 | ⟨e1,e2⟩ | ⟨e1,e2,e3⟩ | ⟨e1,e2,e3,e4⟩
    all_goals (
      go_enter Tryz.func47,Tryz.ntmps47
      go_wp2
      go_ret
      rw [HR2.out]
      exact ⟨L,rfl,H1,S1⟩)
  have e1:0≤ib:=by omega
  have e2:ib≤1073741824:=by omega
  have e3:0≤ic:=by omega
  have e4:ic≤1073741824:=by omega
  have hi:i<g.ms.length:=(List.getElem?_eq_some_iff.1 hp).1
  have hpo:=hgo.pair i p hp
  obtain ⟨r,hr⟩:=h.rOf hp
  have HPR:Hid (∀ W,RGAt Q W G L g → Calls Tryz.prog 83 #[.pointer (some ⟨r.b,0,none⟩),.agg #[.int .i64 0,.int .i64 0,.int .i64 0,.int .i64 ib,.int .i64 ic,.int .i64 0]] W (RetRP (p.1.propose (Gr.cmd ib ic)) r.b r.a p.1 W)):=fun W hW=>rpropose_any (hW.mem i r p hr hp).1 hpo.mb (Gr.cmd ib ic)
  have hrm:r ∈ L.mem:=List.mem_of_getElem? hr
  have hnI:w.heap.size ∉ rfoot r.b r.a:=fun hc=>by have:=h.lt _ (zBZ hrm (zCV hc));omega
  have hnG:G ∉ rfoot r.b r.a:=fun hc=>(h.notMG hrm (zCV hc)).1 rfl
  have hnM:L.mo ∉ rfoot r.b r.a:=fun hc=>(h.notMG hrm (zCV hc)).2.1 rfl
  have HIN:=Lib.hid ((hpo.inGr.propose (a:=ib) (b:=ic) (by omega) (by omega)).1)
  have HLE:=Lib.hid (propose_le hpo.mb (Gr.cmd ib ic))
  have HR:Hid (g.propose ((i:Int)+1) ib ic=if (p.1.propose (Gr.cmd ib ic)).2.2.2=0 then (g.acts ((i:Int)+1) (p.1.propose (Gr.cmd ib ic)).1 (p.1.propose (Gr.cmd ib ic)).2.2.1,0) else (g,(p.1.propose (Gr.cmd ib ic)).2.2.2)):=by
    rw [Hid]
    unfold Gr.propose
    rw [if_neg hbad,at_idx hp]
  have HKEEP:Hid ((p.1.propose (Gr.cmd ib ic)).2.2.2≠0 → (p.1.propose (Gr.cmd ib ic)).1=p.1):=by
    rw [Hid]
    unfold Mb.propose
    split
    · intro _;rfl
    · split
      · intro _;rfl
      · intro h3;exact (h3 rfl).elim
  have hsame:(⟨g.ms.set i (p.1,p.2),g.net⟩:Gr)=g:=by
    rw [show (p.1,p.2)=p from rfl,set_same hp]
  have HSM:=Lib.hid hsame
  have HGO:=Lib.hid hgo
  have HPO:=Lib.hid hpo
  have HP:=Lib.hid hp
  have hn16:=hgo.n16
  clear hbad hsame hgo hpo
  generalize hpr:p.1.propose (Gr.cmd ib ic)=pr at *
  obtain ⟨m',n',said,er⟩:=pr
  simp only at HPR HIN HLE HR HKEEP
  clear hpr
  have hk0:(0:Int)≤(i:Int):=by omega
  have hk1:(i:Int)<(g.ms.length:Int):=by omega
  have hwi:=zS (x:=(i:Int)) (by omega) (by omega)
  obtain ⟨c0,c1,c2,f0,f1,f2,hlt⟩:=H1.cells
  obtain ⟨m0,m1,m2⟩:=H1.mcell hr
  go_enter Tryz.func47,Tryz.ntmps47
  go_upto_region 3 with fail
  generalize w.alloc (.cells #[.int .i64 ik,.int .i64 ((i:Int)+1),.int .i64 ib,.int .i64 ic] 31)=W1 at *
  have HD:=H1.below (zK W1).drew
  have HP1:=Lib.hid (HPR.out W1.drew HD)
  have gG0:=HD.blk
  have gI0:=zM g0
  go_region_held3 (fun W=>W.cell? ⟨G,0,none⟩=some (.slice (some ⟨L.mo,0,none⟩) g.ms.length L.mc)∧W.cell? ⟨w.heap.size,1,none⟩=some (.int .i64 ((i:Int)+1))∧W.cell? ⟨w.heap.size,2,none⟩=some (.int .i64 ib)∧W.cell? ⟨w.heap.size,3,none⟩=some (.int .i64 ic)∧W.cell? ⟨L.mo,i,none⟩=some (.pointer (some ⟨r.b,0,none⟩))) (first | with_reducible exact ⟨c0,i1,i2,i3,m0⟩ | with_reducible exact ⟨d0,j1,j2,j3,q0⟩ | go_keep) ((go_at_call 83;refine HP1.out.mono ?_;rintro e w3 ⟨a3,B3,A3,c3,sl3,rfl,hM3,hS3,hB3,hF3,ms3⟩;have g3:=hS3.chg.keep gI0 hnI;have gG3:=hS3.chg.keep gG0 hnG;obtain ⟨j0,j1,j2,j3,jf1,jlt⟩:=box4 g3;obtain ⟨d0,d1,d2,df0,df1,df2,dlt⟩:=box3 gG3;have q0:w3.cell? ⟨L.mo,i,none⟩=some (.pointer (some ⟨r.b,0,none⟩)):=(hS3.chg.cell (HD.lt _ (rall_mo G L)) hnM).trans (HD.mcell hr).1))
  obtain ⟨L4,h4,S4,hB4⟩:=HD.didX hr HP.out (fun x hx=>hQ x (Nat.le_trans S1.chg.size hx)) hM3 hS3 hB3 hF3
  have S5:=S1.trans (RGStep.pre (zK W1).drew S4)
  have hw3:=S5.chg.size
  clear c0 c1 c2 f0 f1 f2 hlt m0 m1 m2 i0 i1 i2 i3 if1 ilt d0 d1 d2 df0 df1 df2 dlt q0
  by_cases her:er=0
  · subst her
    have HR6:=Lib.hid (HR.out.trans (if_pos rfl))
    have HAC:=Lib.hid (rgacts_said HGO.out HP.out HIN.out h4 ms3 hB4 (fun x hx=>hQ x (Nat.le_trans hw3 hx)) (fun x hx=>hQ x (Nat.le_trans S1.chg.size (Nat.le_trans hB3 hx))) HLE.out hnet)
    go_wp2_with (go_at_call 45;refine HAC.out.mono ?_;rintro e w6 ⟨L6,rfl,h6,S6⟩)
    go_ret
    rw [HR6.out]
    exact ⟨L6,rfl,h6,S5.trans S6⟩
  · have HR6:=Lib.hid (HR.out.trans (if_neg her))
    have her1:(er != 0)=true:=by simpa using her
    have hk:=HKEEP.out her
    subst hk
    rw [HSM.out] at h4
    clear her
    go_wp2
    go_ret
    rw [HR6.out]
    exact ⟨L4,rfl,h4,S5⟩
end
section
variable {Q:Nat → Prop} {w:World} {G:Nat} {L:RL} {g:Gr}
set_option maxRecDepth 100000 in
set_option maxHeartbeats 6400000 in
theorem rgtorn_any (h:RGAt Q w G L g) (k:Nat) {x:Ms} {s:Option Addr × Nat} (hx:g.net[k]?=some x) (hs:L.sl[k]?=some s) (hgo:GrOk g) (hQ:∀ x,w.heap.size≤x → Q x) (hnet:g.net.length≤1000000) (ik ib ic:Int) :
    Calls Tryz.prog 51 #[.pointer (some ⟨G,0,none⟩),itV ik (k:Int) ib ic] w (RetRG Q ((g.take k).torn x ib) G L (.tuple #[]) w):=by
  have hal:=zC w (.cells #[.int .i64 ik,.int .i64 (k:Int),.int .i64 ib,.int .i64 ic] 31)
  have g0:=zG w (.cells #[.int .i64 ik,.int .i64 (k:Int),.int .i64 ib,.int .i64 ic] 31)
  have hxo:MsOk g.ms.length x:=hgo.net x (List.mem_of_getElem? hx)
  obtain ⟨i,hxi⟩:∃ i:Nat,x.dst=(i:Int)+1:=⟨(x.dst - 1).toNat,by have:=hxo.dst;omega⟩
  have hi:i<g.ms.length:=by have:=hxo.dst;omega
  obtain ⟨hk,hkx⟩:=List.getElem?_eq_some_iff.1 hx
  obtain ⟨p,hp⟩:∃ p,g.ms[i]?=some p:=⟨_,List.getElem?_eq_getElem hi⟩
  obtain ⟨r,hr⟩:=h.rOf hp
  have hpo:=hgo.pair i p hp
  have hpt:(g.take k).ms[i]?=some p:=hp
  have hrm:r ∈ L.mem:=List.mem_of_getElem? hr
  obtain ⟨hen1,hen2⟩:=h.ents k hk
  rw [List.getD_eq_getElem?_getD,hs,Option.getD_some,hkx] at hen1 hen2
  have HTK:Hid (∀ W,Below w.heap.size w W → Calls Tryz.prog 48 #[.pointer (some ⟨G,0,none⟩),.int .i64 (k:Int)] W (fun e w'=>e=.returned (x.val s.1 s.2)∧∃ L',RGAt Q w' G L' (g.take k)∧RGStep W G L w' L'∧L'.mem=L.mem)):=fun W hb=>rgtake_any (h.below hb) k hx hs hnet (fun x hx=>hQ x (Nat.le_trans hb.size hx))
  have HHE:Hid (∀ W,RMAt W r.b r.a p.1 → LogIn W s.1 s.2 x.ents → Calls Tryz.prog 49 #[.pointer (some ⟨r.b,0,none⟩),x.val s.1 s.2] W (RetRR (p.1.hear x).1 (p.1.hear x).2 r.b r.a p.1 W)):=fun W hM hl=>rhear_any hM hpo.mb x s.1 s.2 hl (by have:=hxo.len;omega) (by have:=hxo.index;omega) (hen2.mono fun y hy hc=>hy.1 (zBZ hrm (zCV hc)))
  have hin:=(hpo.inGr.hear hxo).1
  have hn16:=hgo.n16
  have HSV:Hid (∀ W L1,(∀ x,W.heap.size≤x → Q x) → RGAt Q W G L1 ⟨g.ms.set i ((p.1.hear x).1,p.2),g.net.eraseIdx k⟩ → Calls Tryz.prog 79 #[.pointer (some ⟨G,0,none⟩),.int .i64 ((i:Int)+1)] W fun e w'=>∃ se L',e=.returned (.int .i64 se)∧RGAt Q w' G L' ⟨g.ms.set i ((p.1.hear x).1,saved (p.1.hear x).1 p.2),g.net.eraseIdx k⟩∧RGStep W G L1 w' L'):=fun W L1 hQ1 h1=>by
    have hp1:(g.ms.set i ((p.1.hear x).1,p.2))[i]?=some ((p.1.hear x).1,p.2):=by simp [hi]
    obtain ⟨q1,hq1⟩:=h1.rOf hp1
    have:=rgsave_any h1 i (p:=((p.1.hear x).1,p.2)) hq1 hp1 (by simp only [List.length_set];exact hn16) hin.mb hin.wf hpo.vt hpo.le hQ1
    simp only [List.set_set] at this
    refine this.mono ?_
    rintro e w' ⟨L',rfl,h2,S2⟩
    exact ⟨_,L',rfl,h2,S2⟩
  have hcr:=(hpo.crash hi hn16 hin (rises_hear hpo.mb x).term ib)
  have HCR:Hid (∀ W L1,(∀ x,W.heap.size≤x → Q x) → RGAt Q W G L1 ⟨g.ms.set i ((p.1.hear x).1,saved (p.1.hear x).1 p.2),g.net.eraseIdx k⟩ → Calls Tryz.prog 50 #[.pointer (some ⟨G,0,none⟩),.int .i64 ((i:Int)+1),.int .i64 ib] W (RetRG Q ⟨g.ms.set i (fresh ((i:Int)+1) g.ms.length (zAD (saved (p.1.hear x).1 p.2) ib),zAD (saved (p.1.hear x).1 p.2) ib),g.net.eraseIdx k⟩ G L1 (.tuple #[]) W)):=fun W L1 hQ1 h1=>by
    have:=rgcrash_any h1 i (p:=((p.1.hear x).1,saved (p.1.hear x).1 p.2)) (by simp [hi]) (by simp only [List.length_set];exact hn16) (saveV_ok hpo.vt _ _ _ _ _) (saveV_le hpo.le) ib (by simp only [List.length_set];exact hcr.1) hQ1
    simpa only [List.set_set,List.length_set] using this
  have HR:Hid ((g.take k).torn x ib=⟨g.ms.set i (fresh ((i:Int)+1) g.ms.length (zAD (saved (p.1.hear x).1 p.2) ib),zAD (saved (p.1.hear x).1 p.2) ib),g.net.eraseIdx k⟩):=by
    unfold Gr.torn Gr.anew Gr.set
    rw [Hid,hxi,at_idx hpt,show ((i:Int)+1 - 1).toNat=i by omega]
    rfl
  have hnG:G ∉ rfoot r.b r.a:=fun hc=>(h.notMG hrm (zCV hc)).1 rfl
  have hlts:=h.lt
  generalize fresh ((i:Int)+1) g.ms.length (zAD (saved (p.1.hear x).1 p.2) ib)=mf at *
  generalize zAD (saved (p.1.hear x).1 p.2) ib=yf at *
  generalize saved (p.1.hear x).1 p.2=sf at *
  clear hin hcr
  generalize p.1.hear x=rr at *
  obtain ⟨m',said⟩:=rr
  simp only at HHE HSV HCR
  generalize (g.take k).torn x ib=gr at *
  obtain ⟨xk,xf,xd,xt,xi,xl,xc,xy,xe⟩:=x
  obtain ⟨sa,sc⟩:=s
  simp only at hxi
  subst hxi
  simp only at HHE hen1 hen2
  have HG:=Lib.hid h
  have HPT:=Lib.hid hpt
  have HRR:=Lib.hid hr
  have hk0:(0:Int)≤(i:Int):=by omega
  have hk1:(i:Int)<(g.ms.length:Int):=by omega
  have hwi:=zS (x:=(i:Int)) (by omega) (by omega)
  have hb1:=hal
  clear h hxo hpo hx hkx hpt hr hgo
  obtain ⟨i0,i1,i2,i3,if1,ilt⟩:=box4 g0
  go_enter Tryz.func51,Tryz.ntmps51
  go_upto_region 2 with (go_at_call 48;refine (HTK.out _ hb1).mono ?_;rintro e w2 ⟨rfl,L2,H2,S2,hmem2⟩)
  have hwI:w.heap.size<(w.alloc (.cells #[.int .i64 ik,.int .i64 (k:Int),.int .i64 ib,.int .i64 ic] 31)).heap.size:=zB g0
  have hnI:∀ y ∈ rall G L2,y≠w.heap.size:=fun y hy=>by
    rcases S2.sub y hy with h1 | h1
    · have:=hlts y h1;omega
    · omega
  have gI2:=S2.chg.keep g0 (fun hc=>by have:=hlts _ hc;omega)
  have S12:RGStep w G L w2 L2:=.pre hal S2
  have hl2:=hen1.chgO S12.chg (hen2.mono fun y hy=>hy.1)
  have hr2:L2.mem[i]?=some r:=by rw [hmem2];exact HRR.out
  have hal2:=zC w2 (.cells #[.int .i64 xk,.int .i64 xf,.int .i64 ((i:Int)+1),.int .i64 xt,.int .i64 xi,.int .i64 xl,.int .i64 xc,.bool xy,.slice sa xe.length sc] 78)
  have g3:=zG w2 (.cells #[.int .i64 xk,.int .i64 xf,.int .i64 ((i:Int)+1),.int .i64 xt,.int .i64 xi,.int .i64 xl,.int .i64 xc,.bool xy,.slice sa xe.length sc] 78)
  have H3:=H2.below hal2
  have S13:=S12.below hal2
  have S3:RGStep w2 G L2 (w2.alloc (.cells #[.int .i64 xk,.int .i64 xf,.int .i64 ((i:Int)+1),.int .i64 xt,.int .i64 xi,.int .i64 xl,.int .i64 xc,.bool xy,.slice sa xe.length sc] 78)) L2:=.of_below hal2
  have gI3:=zA hal2 gI2
  have hl3:=hl2.below hal2
  have hz3:w2.heap.size<(w2.alloc (.cells #[.int .i64 xk,.int .i64 xf,.int .i64 ((i:Int)+1),.int .i64 xt,.int .i64 xi,.int .i64 xl,.int .i64 xc,.bool xy,.slice sa xe.length sc] 78)).heap.size:=zB g3
  have hlt2:=H2.lt
  have hnX:w2.heap.size ∉ rfoot r.b r.a:=fun hc=>by have:=hlt2 _ (zBZ (List.mem_of_getElem? hr2) (zCV hc));omega
  have hnI2:w.heap.size ∉ rfoot r.b r.a:=fun hc=>hnI _ (zBZ (List.mem_of_getElem? hr2) (zCV hc)) rfl
  have hnM:L2.mo ∉ rfoot r.b r.a:=fun hc=>(H2.notMG (List.mem_of_getElem? hr2) (zCV hc)).2.1 rfl
  have hs2:=S12.chg.size
  have hw2I:w.heap.size<w2.heap.size:=Nat.lt_of_lt_of_le hwI S2.chg.size
  clear hb1 i0 i1 i2 i3 if1 ilt hlts hen1 hen2 hal g0 hl2 gI2 hal2 H2 S12 S2
  generalize w2.alloc (.cells #[.int .i64 xk,.int .i64 xf,.int .i64 ((i:Int)+1),.int .i64 xt,.int .i64 xi,.int .i64 xl,.int .i64 xc,.bool xy,.slice sa xe.length sc] 78)=W3 at *
  have HD:=H3.below (zK W3).drew
  have hR3:=(HD.mem i r p hr2 HPT.out).1
  have HP1:=Lib.hid (HHE.out W3.drew hR3 (hl3.below (zK W3).drew))
  have gG0:=HD.blk
  have gX0:=zM g3
  have gI0:=zM gI3
  obtain ⟨c0,c1,c2,f0,f1,f2,hlt⟩:=H3.cells
  replace c0:W3.cell? ⟨G,0,none⟩=some (.slice (some ⟨L2.mo,0,none⟩) g.ms.length L2.mc):=c0
  obtain ⟨m0,m1,m2⟩:=H3.mcell hr2
  obtain ⟨x0,x1,x2,x3,x4,x5,x6,x7,x8⟩:=box9 g3
  go_region_held3 (fun W=>W.cell? ⟨G,0,none⟩=some (.slice (some ⟨L2.mo,0,none⟩) g.ms.length L2.mc)∧W.cell? ⟨w2.heap.size,0,none⟩=some (.int .i64 xk)∧W.cell? ⟨w2.heap.size,1,none⟩=some (.int .i64 xf)∧W.cell? ⟨w2.heap.size,2,none⟩=some (.int .i64 ((i:Int)+1))∧W.cell? ⟨w2.heap.size,3,none⟩=some (.int .i64 xt)∧W.cell? ⟨w2.heap.size,4,none⟩=some (.int .i64 xi)∧W.cell? ⟨w2.heap.size,5,none⟩=some (.int .i64 xl)∧W.cell? ⟨w2.heap.size,6,none⟩=some (.int .i64 xc)∧W.cell? ⟨w2.heap.size,7,none⟩=some (.bool xy)∧W.cell? ⟨w2.heap.size,8,none⟩=some (.slice sa xe.length sc)∧W.cell? ⟨L2.mo,i,none⟩=some (.pointer (some ⟨r.b,0,none⟩))) (first | with_reducible exact ⟨c0,x0,x1,x2,x3,x4,x5,x6,x7,x8,m0⟩ | with_reducible exact ⟨d0,j0,j1,j2,j3,j4,j5,j6,j7,j8,q0⟩ | go_keep) ((go_at_call 49;refine HP1.out.mono ?_;rintro e w4 ⟨a4,B4,A4,c4,sl4,rfl,hM4,hS4,hB4,hF4,ms4⟩;have g4:=hS4.chg.keep gX0 hnX;have gG4:=hS4.chg.keep gG0 hnG;obtain ⟨j0,j1,j2,j3,j4,j5,j6,j7,j8⟩:=box9 g4;obtain ⟨d0,d1,d2,df0,df1,df2,dlt⟩:=box3 gG4;replace d0:w4.cell? ⟨G,0,none⟩=some (.slice (some ⟨L2.mo,0,none⟩) g.ms.length L2.mc):=d0;have q0:w4.cell? ⟨L2.mo,i,none⟩=some (.pointer (some ⟨r.b,0,none⟩)):=(hS4.chg.cell (HD.lt _ (rall_mo G L2)) hnM).trans (HD.mcell hr2).1))
  obtain ⟨L4,H4,S4,hB4'⟩:=HD.didX hr2 HPT.out (fun x hx=>hQ x (by have:=(zK W3).drew.size;omega)) hM4 hS4 hB4 hF4
  have S5:=S13.trans (RGStep.pre (zK W3).drew S4)
  have hz4:=S5.chg.size
  have gI4:=hS4.chg.keep gI0 hnI2
  have HSV1:=Lib.hid (HSV.out w4 L4 (fun x hx=>hQ x (Nat.le_trans hz4 hx)) H4)
  have hnX4:w2.heap.size ∉ rall G L4:=fun hc=>by
    rcases S4.sub _ hc with h1 | h1
    · have:=hlt2 _ h1;omega
    · have:=(zK W3).drew.size;omega
  have hnI4:w.heap.size ∉ rall G L4:=fun hc=>by
    rcases S4.sub _ hc with h1 | h1
    · exact hnI _ h1 rfl
    · have:=(zK W3).drew.size;omega
  clear c0 c1 c2 f0 f1 f2 hlt m0 m1 m2 x0 x1 x2 x3 x4 x5 x6 x7 x8 j0 j1 j2 j3 j4 j5 j6 j7 j8 d0 d1 d2 df0 df1 df2 dlt q0
  obtain ⟨x0,x1,x2,x3,x4,x5,x6,x7,x8⟩:=box9 g4
  go_upto_region 4 with (go_at_call 79;refine HSV1.out.mono ?_;rintro e w5 ⟨se,L5,rfl,H5,S6⟩)
  have S56:=S5.trans S6
  have hz5:=S56.chg.size
  have HCR1:=Lib.hid (HCR.out w5 L5 (fun x hx=>hQ x (Nat.le_trans hz5 hx)) H5)
  clear x0 x1 x2 x3 x4 x5 x6 x7 x8
  have g5:=S6.chg.keep g4 hnX4
  have gI5:=S6.chg.keep gI4 hnI4
  obtain ⟨x0,x1,x2,x3,x4,x5,x6,x7,x8⟩:=box9 g5
  obtain ⟨i0,i1,i2,i3,if1,ilt⟩:=box4 gI5
  go_wp2_with (go_at_call 50;refine HCR1.out.mono ?_;rintro e w6 ⟨L6,rfl,H6,S7⟩)
  refine bodyPost_end (results_none rfl _ _ _) rfl ?_
  rw [HR.out]
  exact ⟨L6,rfl,H6,S56.trans S7⟩
end
section
variable {Q:Nat → Prop} {w:World} {G:Nat} {L:RL} {g:Gr}
set_option maxRecDepth 100000 in
set_option maxHeartbeats 6400000 in
theorem rgdo_timeout (h:RGAt Q w G L g) (hgo:GrOk g) (i:Nat) {p:Mb × Vt} (hp:g.ms[i]?=some p) (hQ:∀ x,w.heap.size≤x → Q x) (ib ic:Int) (hnet:g.net.length≤1000000) :
    Calls Tryz.prog 20 #[.pointer (some ⟨G,0,none⟩),itV 0 ((i:Int)+1) ib ic] w (RetRG Q (g.acts ((i:Int)+1) p.1.timeout.1 p.1.timeout.2) G L (.int .i64 0) w):=by
  have hal:=zC w (.cells #[.int .i64 0,.int .i64 ((i:Int)+1),.int .i64 ib,.int .i64 ic] 31)
  have g0:=zG w (.cells #[.int .i64 0,.int .i64 ((i:Int)+1),.int .i64 ib,.int .i64 ic] 31)
  have hi:i<g.ms.length:=(List.getElem?_eq_some_iff.1 hp).1
  have hn16:=hgo.n16
  have HMB:Hid (∀ W,RGAt Q W G L g → Calls Tryz.prog 43 #[.pointer (some ⟨G,0,none⟩),.int .i64 ((i:Int)+1)] W fun e w'=>e=.returned (.bool true)∧Below W.heap.size W w'):=fun W hW=>by
    have:=zBI hW ((i:Int)+1)
    rwa [show (decide (1≤(i:Int)+1) && decide ((i:Int)+1≤(g.ms.length:Int)))=true by rw [decide_eq_true (by omega),decide_eq_true (by omega)];rfl] at this
  have H1:=h.below hal
  obtain ⟨c0,c1,c2,f0,f1,f2,hlt⟩:=H1.cells
  obtain ⟨i0,i1,i2,i3,if1,ilt⟩:=box4 g0
  have hk0:(0:Int)≤(i:Int):=by omega
  have hk1:(i:Int)<(g.ms.length:Int):=by omega
  have hwi:=zS (x:=(i:Int)) (by omega) (by omega)
  have HH1:=Lib.hid H1
  have hpo:=hgo.pair i p hp
  obtain ⟨r,hr⟩:=h.rOf hp
  have hrm:r ∈ L.mem:=List.mem_of_getElem? hr
  have hnI:w.heap.size ∉ rfoot r.b r.a:=fun hc=>by have:=h.lt _ (zBZ hrm (zCV hc));omega
  have hnG:G ∉ rfoot r.b r.a:=fun hc=>(h.notMG hrm (zCV hc)).1 rfl
  have hnM:L.mo ∉ rfoot r.b r.a:=fun hc=>(h.notMG hrm (zCV hc)).2.1 rfl
  have HTO:Hid (∀ W,RGAt Q W G L g → Calls Tryz.prog 44 #[.pointer (some ⟨r.b,0,none⟩)] W (RetRR p.1.timeout.1 p.1.timeout.2 r.b r.a p.1 W)):=fun W hW=>rtimeout_any (hW.mem i r p hr hp).1 hpo.mb
  have HIN:=Lib.hid (show InGr g.ms.length p.1.timeout.1 from hpo.inGr.timeout.1)
  have HLE:=Lib.hid (timeout_le hpo.mb)
  have HGO:=Lib.hid hgo
  have HP:=Lib.hid hp
  clear H1 hgo hpo h
  generalize p.1.timeout.1=m' at *
  generalize p.1.timeout.2=said at *
  go_enter Tryz.func20,Tryz.ntmps20
  go_wp2_with (go_at_call 43;refine (HMB.out _ (by first | exact HH1.out | exact HH1.out.drew | exact HH1.out.below (zK _).drew)).mono ?_;rintro e w1 ⟨rfl,hb1⟩)
  have hw1:Below (w.alloc (.cells #[.int .i64 0,.int .i64 ((i:Int)+1),.int .i64 ib,.int .i64 ic] 31)).heap.size (w.alloc (.cells #[.int .i64 0,.int .i64 ((i:Int)+1),.int .i64 ib,.int .i64 ic] 31)) w1:=by first | exact hb1 | exact (zK _).drew.trans hb1
  have H2:=HH1.out.below hw1
  have g2:=zA hw1 g0
  clear c0 c1 c2 f0 f1 f2 hlt i0 i1 i2 i3 if1 ilt
  obtain ⟨c0,c1,c2,f0,f1,f2,hlt⟩:=H2.cells
  obtain ⟨i0,i1,i2,i3,if1,ilt⟩:=box4 g2
  have HH2:=Lib.hid H2
  have HB1:=Lib.hid (hal.trans (hw1.mono hal.size))
  clear H2 hw1 hb1 HH1
  go_quiet (fail)
  clear c0 c1 c2 f0 f1 f2 hlt i0 i1 i2 i3 if1 ilt
  have H3:=HH2.out.below (Below.many (zK _) nq)
  have g3:=zI g2 nq
  have HB3:=Lib.hid (HB1.out.trans ((Below.many (zK w1) nq).mono HB1.out.size))
  generalize w1.drewN nq=W3 at *
  obtain ⟨c0,c1,c2,f0,f1,f2,hlt⟩:=H3.cells
  obtain ⟨i0,i1,i2,i3,if1,ilt⟩:=box4 g3
  clear HH2 HB1 g2 hal g0
  go_wp2
  obtain ⟨m0,m1,m2⟩:=H3.mcell hr
  have HD:=H3.below (zK W3).drew
  have HT1:=Lib.hid (HTO.out W3.drew HD)
  have gG0:=HD.blk
  have gI0:=zM g3
  have HQ3:Hid (∀ x,W3.drew.heap.size≤x → Q x):=fun x hx=>hQ x (Nat.le_trans HB3.out.size (by simpa using hx))
  go_region_held3 (fun W=>W.cell? ⟨G,0,none⟩=some (.slice (some ⟨L.mo,0,none⟩) g.ms.length L.mc)∧W.cell? ⟨w.heap.size,1,none⟩=some (.int .i64 ((i:Int)+1))∧W.cell? ⟨L.mo,i,none⟩=some (.pointer (some ⟨r.b,0,none⟩))) (first | with_reducible exact ⟨c0,i1,m0⟩ | with_reducible exact ⟨d0,j1,q0⟩ | go_keep) ((go_at_call 44;refine HT1.out.mono ?_;rintro e w4 ⟨a4,B4,A4,c4,sl4,rfl,hM4,hS4,hB4,hF4,ms4⟩;have g4:=hS4.chg.keep gI0 hnI;have gG4:=hS4.chg.keep gG0 hnG;obtain ⟨j0,j1,j2,j3,jf1,jlt⟩:=box4 g4;obtain ⟨d0,d1,d2,df0,df1,df2,dlt⟩:=box3 gG4;have q0:w4.cell? ⟨L.mo,i,none⟩=some (.pointer (some ⟨r.b,0,none⟩)):=(hS4.chg.cell (HD.lt _ (rall_mo G L)) hnM).trans (HD.mcell hr).1))
  obtain ⟨L5,h5,S5,hB5⟩:=HD.didX hr HP.out HQ3.out hM4 hS4 hB4 hF4
  have S6:=RGStep.pre (HB3.out.drew) S5
  have hw5:=S6.chg.size
  clear c0 c1 c2 f0 f1 f2 hlt m0 m1 m2 i0 i1 i2 i3 if1 ilt d0 d1 d2 df0 df1 df2 dlt q0
  have HAC:=Lib.hid (rgacts_said HGO.out HP.out HIN.out h5 ms4 hB5 (fun x hx=>hQ x (Nat.le_trans hw5 hx)) (fun x hx=>HQ3.out x (Nat.le_trans hB4 hx)) HLE.out hnet)
  clear h5 hM4 hS4 ms4 S5 HD H3
  go_wp2_with (go_at_call 45;refine HAC.out.mono ?_;rintro e w7 ⟨L7,rfl,h7,S7⟩)
  go_ret
  exact ⟨L7,rfl,h7,S6.trans S7⟩
set_option maxRecDepth 100000 in
set_option maxHeartbeats 6400000 in
theorem rgdo_beat (h:RGAt Q w G L g) (hgo:GrOk g) (i:Nat) {p:Mb × Vt} (hp:g.ms[i]?=some p) (hQ:∀ x,w.heap.size≤x → Q x) (ib ic:Int) (hnet:g.net.length≤1000000) :
    Calls Tryz.prog 20 #[.pointer (some ⟨G,0,none⟩),itV 1 ((i:Int)+1) ib ic] w (RetRG Q (g.acts ((i:Int)+1) p.1.beat.1 p.1.beat.2) G L (.int .i64 0) w):=by
  have hal:=zC w (.cells #[.int .i64 1,.int .i64 ((i:Int)+1),.int .i64 ib,.int .i64 ic] 31)
  have g0:=zG w (.cells #[.int .i64 1,.int .i64 ((i:Int)+1),.int .i64 ib,.int .i64 ic] 31)
  have hi:i<g.ms.length:=(List.getElem?_eq_some_iff.1 hp).1
  have hn16:=hgo.n16
  have HMB:Hid (∀ W,RGAt Q W G L g → Calls Tryz.prog 43 #[.pointer (some ⟨G,0,none⟩),.int .i64 ((i:Int)+1)] W fun e w'=>e=.returned (.bool true)∧Below W.heap.size W w'):=fun W hW=>by
    have:=zBI hW ((i:Int)+1)
    rwa [show (decide (1≤(i:Int)+1) && decide ((i:Int)+1≤(g.ms.length:Int)))=true by rw [decide_eq_true (by omega),decide_eq_true (by omega)];rfl] at this
  have H1:=h.below hal
  obtain ⟨c0,c1,c2,f0,f1,f2,hlt⟩:=H1.cells
  obtain ⟨i0,i1,i2,i3,if1,ilt⟩:=box4 g0
  have hk0:(0:Int)≤(i:Int):=by omega
  have hk1:(i:Int)<(g.ms.length:Int):=by omega
  have hwi:=zS (x:=(i:Int)) (by omega) (by omega)
  have HH1:=Lib.hid H1
  have hpo:=hgo.pair i p hp
  obtain ⟨r,hr⟩:=h.rOf hp
  have hrm:r ∈ L.mem:=List.mem_of_getElem? hr
  have hnI:w.heap.size ∉ rfoot r.b r.a:=fun hc=>by have:=h.lt _ (zBZ hrm (zCV hc));omega
  have hnG:G ∉ rfoot r.b r.a:=fun hc=>(h.notMG hrm (zCV hc)).1 rfl
  have hnM:L.mo ∉ rfoot r.b r.a:=fun hc=>(h.notMG hrm (zCV hc)).2.1 rfl
  have HTO:Hid (∀ W,RGAt Q W G L g → Calls Tryz.prog 46 #[.pointer (some ⟨r.b,0,none⟩)] W (RetRR p.1.beat.1 p.1.beat.2 r.b r.a p.1 W)):=fun W hW=>rbeat_any (hW.mem i r p hr hp).1 hpo.mb
  have HIN:=Lib.hid (show InGr g.ms.length p.1.beat.1 from hpo.inGr)
  have HLE:=Lib.hid (beat_le hpo.mb)
  have HGO:=Lib.hid hgo
  have HP:=Lib.hid hp
  clear H1 hgo hpo h
  generalize p.1.beat.1=m' at *
  generalize p.1.beat.2=said at *
  go_enter Tryz.func20,Tryz.ntmps20
  go_wp2_with (go_at_call 43;refine (HMB.out _ (by first | exact HH1.out | exact HH1.out.drew | exact HH1.out.below (zK _).drew)).mono ?_;rintro e w1 ⟨rfl,hb1⟩)
  have hw1:Below (w.alloc (.cells #[.int .i64 1,.int .i64 ((i:Int)+1),.int .i64 ib,.int .i64 ic] 31)).heap.size (w.alloc (.cells #[.int .i64 1,.int .i64 ((i:Int)+1),.int .i64 ib,.int .i64 ic] 31)) w1:=by first | exact hb1 | exact (zK _).drew.trans hb1
  have H2:=HH1.out.below hw1
  have g2:=zA hw1 g0
  clear c0 c1 c2 f0 f1 f2 hlt i0 i1 i2 i3 if1 ilt
  obtain ⟨c0,c1,c2,f0,f1,f2,hlt⟩:=H2.cells
  obtain ⟨i0,i1,i2,i3,if1,ilt⟩:=box4 g2
  have HH2:=Lib.hid H2
  have HB1:=Lib.hid (hal.trans (hw1.mono hal.size))
  clear H2 hw1 hb1 HH1
  go_quiet (fail)
  clear c0 c1 c2 f0 f1 f2 hlt i0 i1 i2 i3 if1 ilt
  have H3:=HH2.out.below (Below.many (zK _) nq)
  have g3:=zI g2 nq
  have HB3:=Lib.hid (HB1.out.trans ((Below.many (zK w1) nq).mono HB1.out.size))
  generalize w1.drewN nq=W3 at *
  obtain ⟨c0,c1,c2,f0,f1,f2,hlt⟩:=H3.cells
  obtain ⟨i0,i1,i2,i3,if1,ilt⟩:=box4 g3
  clear HH2 HB1 g2 hal g0
  go_wp2
  obtain ⟨m0,m1,m2⟩:=H3.mcell hr
  have HD:=H3.below (zK W3).drew
  have HT1:=Lib.hid (HTO.out W3.drew HD)
  have gG0:=HD.blk
  have gI0:=zM g3
  have HQ3:Hid (∀ x,W3.drew.heap.size≤x → Q x):=fun x hx=>hQ x (Nat.le_trans HB3.out.size (by simpa using hx))
  go_region_held3 (fun W=>W.cell? ⟨G,0,none⟩=some (.slice (some ⟨L.mo,0,none⟩) g.ms.length L.mc)∧W.cell? ⟨w.heap.size,1,none⟩=some (.int .i64 ((i:Int)+1))∧W.cell? ⟨L.mo,i,none⟩=some (.pointer (some ⟨r.b,0,none⟩))) (first | with_reducible exact ⟨c0,i1,m0⟩ | with_reducible exact ⟨d0,j1,q0⟩ | go_keep) ((go_at_call 46;refine HT1.out.mono ?_;rintro e w4 ⟨a4,B4,A4,c4,sl4,rfl,hM4,hS4,hB4,hF4,ms4⟩;have g4:=hS4.chg.keep gI0 hnI;have gG4:=hS4.chg.keep gG0 hnG;obtain ⟨j0,j1,j2,j3,jf1,jlt⟩:=box4 g4;obtain ⟨d0,d1,d2,df0,df1,df2,dlt⟩:=box3 gG4;have q0:w4.cell? ⟨L.mo,i,none⟩=some (.pointer (some ⟨r.b,0,none⟩)):=(hS4.chg.cell (HD.lt _ (rall_mo G L)) hnM).trans (HD.mcell hr).1))
  obtain ⟨L5,h5,S5,hB5⟩:=HD.didX hr HP.out HQ3.out hM4 hS4 hB4 hF4
  have S6:=RGStep.pre (HB3.out.drew) S5
  have hw5:=S6.chg.size
  clear c0 c1 c2 f0 f1 f2 hlt m0 m1 m2 i0 i1 i2 i3 if1 ilt d0 d1 d2 df0 df1 df2 dlt q0
  have HAC:=Lib.hid (rgacts_said HGO.out HP.out HIN.out h5 ms4 hB5 (fun x hx=>hQ x (Nat.le_trans hw5 hx)) (fun x hx=>HQ3.out x (Nat.le_trans hB4 hx)) HLE.out hnet)
  clear h5 hM4 hS4 ms4 S5 HD H3
  go_wp2_with (go_at_call 45;refine HAC.out.mono ?_;rintro e w7 ⟨L7,rfl,h7,S7⟩)
  go_ret
  exact ⟨L7,rfl,h7,S6.trans S7⟩
set_option maxRecDepth 100000 in
set_option maxHeartbeats 6400000 in
theorem rgdo_propose (h:RGAt Q w G L g) (hgo:GrOk g) (i:Nat) {p:Mb × Vt} (hp:g.ms[i]?=some p) (hQ:∀ x,w.heap.size≤x → Q x) (ib ic:Int) (hnet:g.net.length≤1000000) :
    Calls Tryz.prog 20 #[.pointer (some ⟨G,0,none⟩),itV 2 ((i:Int)+1) ib ic] w (RetRG Q (g.propose ((i:Int)+1) ib ic).1 G L (.int .i64 (g.propose ((i:Int)+1) ib ic).2) w):=by
  have hal:=zC w (.cells #[.int .i64 2,.int .i64 ((i:Int)+1),.int .i64 ib,.int .i64 ic] 31)
  have g0:=zG w (.cells #[.int .i64 2,.int .i64 ((i:Int)+1),.int .i64 ib,.int .i64 ic] 31)
  have hi:i<g.ms.length:=(List.getElem?_eq_some_iff.1 hp).1
  have hn16:=hgo.n16
  have HMB:Hid (∀ W,RGAt Q W G L g → Calls Tryz.prog 43 #[.pointer (some ⟨G,0,none⟩),.int .i64 ((i:Int)+1)] W fun e w'=>e=.returned (.bool true)∧Below W.heap.size W w'):=fun W hW=>by
    have:=zBI hW ((i:Int)+1)
    rwa [show (decide (1≤(i:Int)+1) && decide ((i:Int)+1≤(g.ms.length:Int)))=true by rw [decide_eq_true (by omega),decide_eq_true (by omega)];rfl] at this
  have H1:=h.below hal
  obtain ⟨c0,c1,c2,f0,f1,f2,hlt⟩:=H1.cells
  obtain ⟨i0,i1,i2,i3,if1,ilt⟩:=box4 g0
  have hk0:(0:Int)≤(i:Int):=by omega
  have hk1:(i:Int)<(g.ms.length:Int):=by omega
  have hwi:=zS (x:=(i:Int)) (by omega) (by omega)
  have HH1:=Lib.hid H1
  have HPR:Hid (∀ W,w.heap.size≤W.heap.size → RGAt Q W G L g → Calls Tryz.prog 47 #[.pointer (some ⟨G,0,none⟩),itV 2 ((i:Int)+1) ib ic] W (RetRG Q (g.propose ((i:Int)+1) ib ic).1 G L (.int .i64 (g.propose ((i:Int)+1) ib ic).2) W)):=fun W hz hW=>rgpropose_any hW i hp hgo (fun x hx=>hQ x (Nat.le_trans hz hx)) hnet 2 ib ic
  clear H1 hgo hp h
  generalize g.propose ((i:Int)+1) ib ic=pr at *
  go_enter Tryz.func20,Tryz.ntmps20
  go_wp2_with (go_at_call 43;refine (HMB.out _ (by first | exact HH1.out | exact HH1.out.drew | exact HH1.out.below (zK _).drew)).mono ?_;rintro e w1 ⟨rfl,hb1⟩)
  have hw1:Below (w.alloc (.cells #[.int .i64 2,.int .i64 ((i:Int)+1),.int .i64 ib,.int .i64 ic] 31)).heap.size (w.alloc (.cells #[.int .i64 2,.int .i64 ((i:Int)+1),.int .i64 ib,.int .i64 ic] 31)) w1:=by first | exact hb1 | exact (zK _).drew.trans hb1
  have H2:=HH1.out.below hw1
  have g2:=zA hw1 g0
  clear c0 c1 c2 f0 f1 f2 hlt i0 i1 i2 i3 if1 ilt
  obtain ⟨c0,c1,c2,f0,f1,f2,hlt⟩:=H2.cells
  obtain ⟨i0,i1,i2,i3,if1,ilt⟩:=box4 g2
  have HH2:=Lib.hid H2
  have HB1:=Lib.hid (hal.trans (hw1.mono hal.size))
  clear H2 hw1 hb1 HH1
  go_quiet (fail)
  clear c0 c1 c2 f0 f1 f2 hlt i0 i1 i2 i3 if1 ilt
  have H3:=HH2.out.below (Below.many (zK _) nq)
  have g3:=zI g2 nq
  have HB3:=Lib.hid (HB1.out.trans ((Below.many (zK w1) nq).mono HB1.out.size))
  generalize w1.drewN nq=W3 at *
  obtain ⟨c0,c1,c2,f0,f1,f2,hlt⟩:=H3.cells
  obtain ⟨i0,i1,i2,i3,if1,ilt⟩:=box4 g3
  clear HH2 HB1 g2 hal g0
  have HP1:=Lib.hid (HPR.out W3 HB3.out.size H3)
  have HP2:=Lib.hid (HPR.out W3.drew HB3.out.drew.size (H3.below (zK W3).drew))
  go_wp2_with (go_at_call 47;refine (by first | with_reducible exact HP1.out | with_reducible exact HP2.out:Calls _ _ _ _ _).mono ?_;rintro e w7 ⟨L7,rfl,h7,S7⟩)
  go_ret
  exact ⟨L7,rfl,h7,RGStep.pre HB3.out S7⟩
end
end Go.Proofs.YtnljdkglncmfaaaGreat
