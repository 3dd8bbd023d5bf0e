/-
  Part Rb of the proof.
-/
import Derived.Test.YtnljdkglncmfaaaGreatRa
import Derived.Test.YtnljdkglncmfaaaGreatRaftS
import Derived.Test.YtnljdkglncmfaaaGreatBi
namespace Go.Proofs.YtnljdkglncmfaaaGreat
open Go.RowKit
set_option linter.unusedVariables false
theorem made1 (v:Value) (hv:v.cells=#[v]) (n:Nat):madeCells v.cells (n * 1)=(List.replicate n v).toArray:=by
  rw [hv]
  unfold madeCells
  apply Array.ext
  · simp
  · intro i h1 h2
    simp [Nat.mod_one]
theorem elemBo:Elem Tryz.prog 56 4 (.bool false) 1 1:=⟨Tryz.underlying56,by kernel_rfl,rfl,by omega⟩
theorem rmake_bool (n:Nat) (hn:n≤16) (W:World):(Instr.makeSlice 56 (.int .i64 (n:Int)) (.int .i64 (n:Int))).run Tryz.prog W=.ok (.slice (some ⟨W.heap.size,0,none⟩) n n) (W.alloc (.cells (List.replicate n (.bool false)).toArray 4)):=by
  obtain ⟨i,hi,hz,hsize,hby⟩:=info_parts elemBo.info
  have:=run_make (P:=Tryz.prog) W 56 4 i _ elemBo.under hi hz .i64 .i64 (n:Int) (n:Int) (by omega) (by omega) (by rw [hby];omega) (by omega)
  rw [hsize] at this
  simp only [Int.toNat_natCast] at this
  rwa [made1 _ rfl] at this
theorem rmake_int (n:Nat) (hn:n≤16) (W:World):(Instr.makeSlice 28 (.int .i64 (n:Int)) (.int .i64 (n:Int))).run Tryz.prog W=.ok (.slice (some ⟨W.heap.size,0,none⟩) n n) (W.alloc (.cells (List.replicate n (.int .i64 0)).toArray 3)):=by
  obtain ⟨i,hi,hz,hsize,hby⟩:=info_parts elemI.info
  have:=run_make (P:=Tryz.prog) W 28 3 i _ elemI.under hi hz .i64 .i64 (n:Int) (n:Int) (by omega) (by omega) (by rw [hby];omega) (by omega)
  rw [hsize] at this
  simp only [Int.toNat_natCast] at this
  rwa [made1 _ rfl] at this
theorem RMAt.fresh {w:World} {b:Nat} {a:RA} {m:Mb} (h:RMAt w b a m):RMAt ((w.setCell ⟨b,9,none⟩ (.slice (some ⟨w.heap.size,0,none⟩) m.prog.length m.prog.length)).alloc (.cells (Array.replicate m.prog.length (.bool false)) 4)) b { a with va:=w.heap.size } { m with votes:=[] }:=by
  obtain ⟨a1,a2,a3,a4,a5,a6⟩:=h.apart
  have hlt:=h.lt
  have hb:b<w.heap.size:=zB h.blk
  have hC:Chg [b] w ((w.setCell ⟨b,9,none⟩ (.slice (some ⟨w.heap.size,0,none⟩) m.prog.length m.prog.length)).alloc (.cells (Array.replicate m.prog.length (.bool false)) 4)):=((Chg.refl _ _).setCell (.inl (by simp)) 9 _).alloc _
  have g:=zG (w.setCell ⟨b,9,none⟩ (.slice (some ⟨w.heap.size,0,none⟩) m.prog.length m.prog.length)) (.cells (Array.replicate m.prog.length (.bool false)) 4)
  rw [show (w.setCell ⟨b,9,none⟩ (.slice (some ⟨w.heap.size,0,none⟩) m.prog.length m.prog.length)).heap.size=w.heap.size by simp [World.setCell]] at g
  have hv:(zDE { m with votes:=[] }).toArray=Array.replicate m.prog.length (.bool false):=by
    simp only [zDE,List.not_mem_nil,decide_false,List.map_const',List.length_range,List.toArray_replicate]
  refine ⟨zH (zQ (i:=9) h.blk _) _,h.log.chgO hC (h.lout.mono fun x hx hc=>hx (by simp only [List.mem_singleton] at hc;simp [rfoot,hc])),?_,by rw [hv];exact g,zH (zL h.mat a2 _) _,zH (zL h.nxt a3 _) _,fun v hv'=>by simp at hv',h.ne⟩
  exact (h.lout.both h.log.ltO).mono fun x ⟨hx,hl⟩ hc=>by
    simp only [rfoot,List.mem_cons,List.not_mem_nil,or_false] at hx hc
    rcases hc with hc | hc | hc | hc
    · exact hx (.inl hc)
    · omega
    · exact hx (.inr (.inr (.inl hc)))
    · exact hx (.inr (.inr (.inr hc)))
theorem RStep.fresh {w w1:World} {b:Nat} {a:RA} {m m1 m2:Mb} (h:RStep w b a m w1 a m1) (hl:m2.log=m1.log) (v:Value) (o:Obj):RStep w b a m ((w1.setCell ⟨b,9,none⟩ v).alloc o) { a with va:=w1.heap.size } m2 :=
  ⟨(h.chg.setCell (.inl (by simp [rfoot])) 9 v).alloc o,fun x hx=>by
    simp only [rfoot,List.mem_cons,List.not_mem_nil,or_false] at hx ⊢
    rcases hx with hx | hx | hx | hx
    · exact .inl (.inl hx)
    · exact .inr (by have:=h.chg.size;omega)
    · exact .inl (.inr (.inr (.inl hx)))
    · exact .inl (.inr (.inr (.inr hx))),fun P hP hr=>by rw [hl];exact h.log P hP hr⟩
section
variable {w:World} {b:Nat} {a:RA} {m:Mb}
set_option maxRecDepth 100000 in
set_option maxHeartbeats 6400000 in
theorem rtimeout_any (h:RMAt w b a m) (hok:MbOk m):Calls Tryz.prog 44 #[.pointer (some ⟨b,0,none⟩)] w (RetRR m.timeout.1 m.timeout.2 b a m w):=by
  have n1:=hok.n1
  have n16:=hok.n16
  obtain ⟨c0,c1,c2,c3,c4,c5,c6,c7,c8,c9,c10,c11,hlt⟩:=zBA h.blk
  by_cases hr:m.role=2
  · rw [show m.timeout=(m,[]) from if_pos (.inl hr)]
    have hr1:(m.role == 2)=true:=by simpa using hr
    clear hr
    go_enter Tryz.func44,Tryz.ntmps44
    go_wp2
    go_ret
    exact RetRR.nil h (RStep.refl _ _ _ _)
  have hr1:(m.role == 2)=false:=by simpa using hr
  by_cases hT:1073741824≤m.term
  · rw [show m.timeout=(m,[]) from if_pos (.inr hT)]
    clear hr
    go_enter Tryz.func44,Tryz.ntmps44
    go_wp2
    go_ret
    exact RetRR.nil h (RStep.refl _ _ _ _)
  have hT0:=(zBJ hok.ballot).1
  have HTO:Hid (m.timeout=if m.stand.won=true then (m.stand.lead,m.stand.lead.adds) else (m.stand,m.stand.asks)):=if_neg (by omega)
  have HOKS:=Lib.hid (hok.stand (by omega))
  have hT1:m.term<1073741824:=by omega
  have hT2:¬ (1073741824≤m.term):=hT
  clear hr hT
  have hid1:=hok.id1
  have hid16:m.id≤16:=by have:=hok.idn;omega
  obtain ⟨fr0,fr1,fr2,fr3,fr4,fr5,fr6,fr7,fr8,fr9,fr10,fr11⟩:=fro12 h.blk
  go_enter Tryz.func44,Tryz.ntmps44
  go_wp2
  have hmk:=rmake_bool m.prog.length n16
  have hwt:=zS (x:=m.term+1) (by omega) (by omega)
  go_still_tail 14,(by kernel_rfl)
  show wpList _ _ _ _ _ w.drew
  go_wp2
  have M1:RMAt (((w.setCell ⟨b,2,none⟩ (.int .i64 (m.term+1))).setCell ⟨b,3,none⟩ (.int .i64 m.id)).setCell ⟨b,7,none⟩ (.int .i64 1)) b a { m with term:=m.term+1,vote:=m.id,role:=1 } :=
    ((h.store (m':={ m with term:=m.term+1 }) 2 _ rfl rfl rfl rfl).store (m':={ m with term:=m.term+1,vote:=m.id }) 3 _ rfl rfl rfl rfl).store 7 _ rfl rfl rfl rfl
  have S1:RStep w b a m (((w.setCell ⟨b,2,none⟩ (.int .i64 (m.term+1))).setCell ⟨b,3,none⟩ (.int .i64 m.id)).setCell ⟨b,7,none⟩ (.int .i64 1)) a { m with term:=m.term+1,vote:=m.id,role:=1 } :=
    (((RStep.refl w b a m).set (m2:={ m with term:=m.term+1 }) (by simp [rfoot]) 2 _ rfl).set (m2:={ m with term:=m.term+1,vote:=m.id }) (by simp [rfoot]) 3 _ rfl).set (by simp [rfoot]) 7 _ rfl
  clear c0 c1 c2 c3 c4 c5 c6 c7 c8 c9 c10 c11 hlt fr0 fr1 fr2 fr3 fr4 fr5 fr6 fr7 fr8 fr9 fr10 fr11 hmk
  have hz1:(((w.setCell ⟨b,2,none⟩ (.int .i64 (m.term+1))).setCell ⟨b,3,none⟩ (.int .i64 m.id)).setCell ⟨b,7,none⟩ (.int .i64 1)).heap.size=w.heap.size:=by simp [World.setCell]
  generalize ((w.setCell ⟨b,2,none⟩ (.int .i64 (m.term+1))).setCell ⟨b,3,none⟩ (.int .i64 m.id)).setCell ⟨b,7,none⟩ (.int .i64 1)=W1 at *
  have M2:=M1.fresh
  have S2:=S1.fresh (m2:={ m with term:=m.term+1,vote:=m.id,role:=1,votes:=[] }) rfl (.slice (some ⟨w.heap.size,0,none⟩) m.prog.length m.prog.length) (.cells (Array.replicate m.prog.length (.bool false)) 4)
  rw [hz1] at M2 S2
  generalize (W1.setCell ⟨b,9,none⟩ (.slice (some ⟨w.heap.size,0,none⟩) m.prog.length m.prog.length)).alloc (.cells (Array.replicate m.prog.length (.bool false)) 4)=W2 at *
  replace M2:=M2.drew
  replace S2:=S2.below (Below.refl _ _).drew
  generalize W2.drew=V2 at *
  have hidn:=hok.idn
  obtain ⟨q,hpid⟩:∃ q:Nat,m.id=(q:Int)+1:=⟨(m.id - 1).toNat,by omega⟩
  have hdn:q<m.prog.length:=by omega
  have hqn:(q:Int)<m.prog.length:=by omega
  have hq0:(0:Int)≤(q:Int):=by omega
  have hwi:=zS (x:=(q:Int)) (by omega) (by omega)
  have hqe:(m.id - 1).toNat=q:=by omega
  have M3:=M2.setV (k:=m.id) (vs:=[m.id]) hid1 hidn (fun j=>by simp)
  have S3:=S2.set (m2:=m.stand) (c:=w.heap.size) (by simp [rfoot]) q (.bool true) rfl
  rw [hqe] at M3
  obtain ⟨c0,c1,c2,c3,c4,c5,c6,c7,c8,c9,c10,c11,hlt⟩:=zBA M2.blk
  have v1:=zN M2.votes q
  have v2:=zB M2.votes
  have v3:V2.cell? ⟨w.heap.size,q,none⟩=some (.bool false):=(zE M2.votes q).trans (by simp [zDE,hdn])
  simp only at v1 v2
  have HM:Hid (∀ W,Calls Tryz.prog 76 #[.int .i64 (m.prog.length:Nat)] W fun e w'=>e=.returned (.int .i64 ((majN m.prog.length:Nat):Int))∧W=w'):=fun W=>by
    have:=refMajority_any (m.prog.length:Int) (by omega) (by omega) W
    rw [if_neg (by omega)] at this
    unfold majN
    rwa [show ((m.prog.length / 2+1:Nat):Int)=(m.prog.length:Int) / 2+1 by omega]
  have HW:Hid (m.stand.won=decide (majN m.prog.length≤1)):=rfl
  have hmaj:1≤majN m.prog.length:=by unfold majN;omega
  change RMAt (V2.setCell ⟨w.heap.size,q,none⟩ (.bool true)) b { a with va:=w.heap.size } m.stand at M3
  go_still_tail 10,(by kernel_rfl)
  show wpList _ _ _ _ _ V2.drew
  have v4:¬ (V2.heap.size≤w.heap.size):=by omega
  go_upto_region 7 with fail
  clear v1 v3 c0 c1 c2 c3 c4 c5 c6 c7 c8 c9 c10 c11 hlt
  generalize hq3:V2.setCell ⟨w.heap.size,q,none⟩ (.bool true)=W3 at *
  clear hq3 M1 M2 S1 S2 hpid hqe hwi hq0 hqn
  replace M3:=M3.drew
  replace S3:=S3.below (Below.refl _ _).drew
  generalize W3.drew=W4 at *
  have M3e:RMAt W4 b { a with va:=w.heap.size } { m with term:=m.term+1,vote:=m.id,role:=1,votes:=[m.id] }:=M3
  obtain ⟨c0,c1,c2,c3,c4,c5,c6,c7,c8,c9,c10,c11,hlt⟩:=zBA M3e.blk
  by_cases hw:majN m.prog.length=1
  · have HT2:Hid (m.timeout=(m.stand.lead,m.stand.lead.adds)):=by rw [Hid,HTO.out,if_pos (by rw [HW.out,hw];rfl)]
    rw [hw] at HM
    have HLE:=Lib.hid (rlead_any M3 HOKS.out (by show 1≤m.term+1;omega))
    go_wp2_with (first
      | (go_at_call 76;refine (HM.out _).mono ?_;rintro e wx ⟨rfl,hwx⟩;subst hwx)
      | (go_at_call 77;refine HLE.out.mono ?_;rintro e w5 ⟨a5,B5,A5,c5',sl5,rfl,M5,S5,hB5,hF5,ms5⟩))
    go_ret
    rw [HT2.out]
    exact ⟨a5,B5,A5,c5',sl5,rfl,M5,S3.trans S5,Nat.le_trans S3.chg.size hB5,hF5,ms5⟩
  · have hwb:(((majN m.prog.length:Nat):Int) == 1)=false:=by rw [beq_eq_false_iff_ne];omega
    have HT2:Hid (m.timeout=(m.stand,Mb.toAll m.id m.stand.ask m.prog.length)):=by
      rw [Hid,HTO.out,if_neg (by rw [HW.out];simp;omega)];rfl
    have HLF:=Lib.hid hok.lastF
    have HAK:Hid (∀ k,m.stand.ask k=⟨0,m.id,k,m.term+1,(m.log.length:Int),endT m.log 0,0,false,[]⟩):=fun k=>by
      have:=HLF.out
      unfold Mb.ask Mb.stand
      simp only
      rw [this]
    have HSY:Hid (∀ W k,Below W4.heap.size W4 W → Calls Tryz.prog 78 #[.pointer (some ⟨b,0,none⟩),.int .i64 0,.int .i64 k] W fun e w'=>e=.returned (.agg #[.int .i64 0,.int .i64 m.id,.int .i64 k,.int .i64 (m.term+1),.int .i64 0,.int .i64 0,.int .i64 0,.bool false,.slice none 0 0])∧Below W.heap.size W w'):=fun W k hW=>rsay_any (M3.below hW) 0 k
    have HLA:Hid (∀ W,Below W4.heap.size W4 W → Calls Tryz.prog 75 #[logV 0 0 a.la m.log.length a.lc] W fun e w'=>e=.returned (.tuple #[.int .i64 (m.log.length:Int),.int .i64 (endT m.log 0)])∧Below W.heap.size W w'):=fun W hW=>by
      have:=zBX 0 0 a.la a.lc m.log W (M3.below hW).log
      rwa [HLF.out] at this
    go_wp2_with (go_at_call 76;refine (HM.out _).mono ?_;rintro e wx ⟨rfl,hwx⟩;subst hwx)
    clear c0 c1 c2 c3 c4 c5 c6 c7 c8 c9 c10 c11 hlt
    go_loopw [3,4] (fun v i wr=>∃ (k:Nat) (A:Option Addr) (c:Nat) (sl:List (Option Addr × Nat)),k≤m.prog.length∧i=.int .i64 ((k:Int)+1)∧v=.slice A (Mb.toAll m.id m.stand.ask k).length c∧MsAt wr W4.heap.size A c (Mb.toAll m.id m.stand.ask k) sl∧Below W4.heap.size W4 wr) (fun _ i _=>m.prog.length+1 - (intOf i).toNat)
    case atStart=>exact ⟨0,none,0,[],by omega,rfl,rfl,MsAt.nil _ _,zK _⟩
    case round =>
      obtain ⟨k,A,c,sl,hk,rfl,rfl,hms,hb⟩:=hrel
      have H1:RMAt wr b { a with va:=w.heap.size } { m with term:=m.term+1,vote:=m.id,role:=1,votes:=[m.id] }:=M3.below hb
      obtain ⟨c0,c1,c2,c3,c4,c5,c6,c7,c8,c9,c10,c11,hlt⟩:=zBA H1.blk
      by_cases hlt:k<m.prog.length
      · have hk0:(0:Int)≤(k:Int):=by omega
        have hk1:(k:Int)+1≤(m.prog.length:Int):=by omega
        have hk2:(k:Int)≤16:=by omega
        have hw2:=zS (x:=(k:Int)+1+1) (by omega) (by omega)
        by_cases hid:(k:Int)+1=m.id
        · have hid1:(((k:Int)+1) == m.id)=true:=by rw [beq_iff_eq];omega
          have HT:Hid (Mb.toAll m.id m.stand.ask (k+1)=Mb.toAll m.id m.stand.ask k):=by rw [Hid,Mb.toAll,if_pos hid,List.append_nil]
          clear hid
          go_wp2
          exact ⟨⟨k+1,A,c,sl,by omega,by go_num,by rw [HT.out],by rw [HT.out];exact hms,hb⟩,by simp [intOf];omega⟩
        · have hid1:(((k:Int)+1) == m.id)=false:=by rw [beq_eq_false_iff_ne];omega
          have HT:Hid (Mb.toAll m.id m.stand.ask (k+1)=Mb.toAll m.id m.stand.ask k ++ [⟨0,m.id,(k:Int)+1,m.term+1,(m.log.length:Int),endT m.log 0,0,false,[]⟩]):=by rw [Hid,Mb.toAll,if_neg hid,HAK.out]
          have HL:Hid ((Mb.toAll m.id m.stand.ask k).length≤k):=toAll_le _ _ _
          have hL1:(Mb.toAll m.id m.stand.ask k).length≤16:=by have:=HL.out;omega
          clear hid
          generalize Mb.toAll m.id m.stand.ask k=ms at HT HL hL1 hms
          have hs:=hb.size
          go_upto_region 15 with (go_at_call 78;refine (HSY.out _ _ hb).mono ?_;rintro e w6 ⟨rfl,hb6⟩)
          clear c0 c1 c2 c3 c4 c5 c6 c7 c8 c9 c10 c11 hlt
          have hb7:Below wr.heap.size wr (w6.alloc (.cells #[.int .i64 0,.int .i64 m.id,.int .i64 ((k:Int)+1),.int .i64 (m.term+1),.int .i64 0,.int .i64 0,.int .i64 0,.bool false,.slice none 0 0] 78)):=hb6.alloc hb6.size _
          have G7:=zG w6 (.cells #[.int .i64 0,.int .i64 m.id,.int .i64 ((k:Int)+1),.int .i64 (m.term+1),.int .i64 0,.int .i64 0,.int .i64 0,.bool false,.slice none 0 0] 78)
          have hF6:wr.heap.size≤w6.heap.size:=hb6.size
          have hms7:=hms.below hb7
          have hw7:=hb.trans (hb7.mono hs)
          generalize w6.alloc (.cells #[.int .i64 0,.int .i64 m.id,.int .i64 ((k:Int)+1),.int .i64 (m.term+1),.int .i64 0,.int .i64 0,.int .i64 0,.bool false,.slice none 0 0] 78)=W7 at *
          generalize w6.heap.size=F6 at *
          have H7:RMAt W7 b { a with va:=w.heap.size } { m with term:=m.term+1,vote:=m.id,role:=1,votes:=[m.id] }:=M3.below hw7
          obtain ⟨c0,c1,c2,c3,c4,c5,c6,c7,c8,c9,c10,c11,hlt⟩:=zBA H7.blk
          have HL7:=Lib.hid (HLA.out _ hw7)
          clear hb6
          go_wp2_with (first
            | (go_at_call 75;refine HL7.out.mono ?_;rintro e w8 ⟨rfl,hb8⟩;have G8:=zA hb8 G7;obtain ⟨x0,x1,x2,x3,x4,x5,x6,x7,x8⟩:=box9 G8;obtain ⟨fr0,fr1,fr2,fr3,fr4,fr5,fr6,fr7,fr8,fr9⟩:=fro9 G8;have flt:=zB G8;have hw8:Below wr.heap.size wr w8:=hb7.trans (hb8.mono hb7.size);have hbX:Below wr.heap.size wr (((w8.setCell ⟨F6,4,none⟩ (.int .i64 (m.log.length:Int))).setCell ⟨F6,5,none⟩ (.int .i64 (endT m.log 0))).alloc (.cells #[.int .i64 0,.int .i64 m.id,.int .i64 ((k:Int)+1),.int .i64 (m.term+1),.int .i64 (m.log.length:Int),.int .i64 (endT m.log 0),.int .i64 0,.bool false,.slice none 0 0] 78)):=((hw8.setCell (p:=⟨F6,4,none⟩) hF6 _).setCell (p:=⟨F6,5,none⟩) hF6 _).alloc (by simpa [World.setCell] using hw8.size) _;have HNEW:Hid (RowAt (((w8.setCell ⟨F6,4,none⟩ (.int .i64 (m.log.length:Int))).setCell ⟨F6,5,none⟩ (.int .i64 (endT m.log 0))).alloc (.cells #[.int .i64 0,.int .i64 m.id,.int .i64 ((k:Int)+1),.int .i64 (m.term+1),.int .i64 (m.log.length:Int),.int .i64 (endT m.log 0),.int .i64 0,.bool false,.slice none 0 0] 78)) (some ⟨w8.heap.size,0,none⟩) ((⟨0,m.id,(k:Int)+1,m.term+1,(m.log.length:Int),endT m.log 0,0,false,[]⟩:Ms).cells none 0)):=(by have:=RowAt.new ((w8.setCell ⟨F6,4,none⟩ (.int .i64 (m.log.length:Int))).setCell ⟨F6,5,none⟩ (.int .i64 (endT m.log 0))) #[.int .i64 0,.int .i64 m.id,.int .i64 ((k:Int)+1),.int .i64 (m.term+1),.int .i64 (m.log.length:Int),.int .i64 (endT m.log 0),.int .i64 0,.bool false,.slice none 0 0] 78;rw [show ((w8.setCell ⟨F6,4,none⟩ (.int .i64 (m.log.length:Int))).setCell ⟨F6,5,none⟩ (.int .i64 (endT m.log 0))).heap.size=w8.heap.size by simp [World.setCell]] at this;exact this))
            | (at_builtin;refine zF rfl (.tmp 93) (.tmp 95) rfl elemM W4.heap.size _ ms.length _ (by rfl) (zD hms.own hbX) (some ⟨w8.heap.size,0,none⟩) 1 1 ((⟨0,m.id,(k:Int)+1,m.term+1,(m.log.length:Int),endT m.log 0,0,false,[]⟩:Ms).cells none 0) (by rfl) (by rfl) HNEW.out (msC_one (⟨0,m.id,(k:Int)+1,m.term+1,(m.log.length:Int),endT m.log 0,0,false,[]⟩:Ms) none 0) (by unfold maxLen;omega) (by omega) (Nat.le_trans hs hbX.size) (fun h=>by cases h) ?_;intro A2 c2' w2 hown2 hg2 hat2;have hb2:=Below.appended (hb.trans (hbX.mono hs)) (zD hms.own hbX) hg2 (Nat.le_trans hs hbX.size) (Nat.le_refl _)))
          have hms2:=MsAt.snoc (x:=(⟨0,m.id,(k:Int)+1,m.term+1,(m.log.length:Int),endT m.log 0,0,false,[]⟩:Ms)) (a1:=none) (cx:=0) hms (World.ownsRow_nil _ _ _ _) hbX hown2 hg2
          exact ⟨⟨k+1,A2,c2',sl ++ [(none,0)],by omega,by go_num,by rw [HT.out];simp,by rw [HT.out];exact hms2,hb2⟩,by simp [intOf];omega⟩
      · have hk':k=m.prog.length:=by omega
        subst hk'
        have hk1:¬ (m.prog.length:Int)+1≤(m.prog.length:Int):=by omega
        go_wp2
        go_ret
        rw [HT2.out]
        exact ⟨_,W4.heap.size,A,c,sl,rfl,M3.below hb,S3.below hb,S3.chg.size,M3.lt,hms⟩
end
section
variable {w:World} {b:Nat} {a:RA} {m:Mb}
set_option maxRecDepth 100000 in
set_option maxHeartbeats 6400000 in
theorem rvoted_any (h : RMAt w b a m) (hok : MbOk m) (x : Ms) (hx1 : 1 ≤ x.frm) (hx2 : x.frm ≤ m.prog.length) (am : Option Addr) (cm : Nat) : Calls Tryz.prog 86 #[.pointer (some ⟨b, 0, none⟩), x.val am cm] w (RetRR (m.voted x).1 (m.voted x).2 b a m w) := by
  obtain ⟨xk,xf,xd,xt,xi,xl,xc,xy,xe⟩:=x
  simp only at hx1 hx2
  obtain ⟨q,rfl⟩:∃ q:Nat,xf=(q:Int)+1:=⟨(xf - 1).toNat,by omega⟩
  show Calls _ _ #[.pointer (some ⟨b,0,none⟩),.agg #[.int .i64 xk,.int .i64 ((q:Int)+1),.int .i64 xd,.int .i64 xt,.int .i64 xi,.int .i64 xl,.int .i64 xc,.bool xy,.slice am xe.length cm]] _ _
  have hal:=zC w (.cells #[.int .i64 xk,.int .i64 ((q:Int)+1),.int .i64 xd,.int .i64 xt,.int .i64 xi,.int .i64 xl,.int .i64 xc,.bool xy,.slice am xe.length cm] 78)
  have g0:=zG w (.cells #[.int .i64 xk,.int .i64 ((q:Int)+1),.int .i64 xd,.int .i64 xt,.int .i64 xi,.int .i64 xl,.int .i64 xc,.bool xy,.slice am xe.length cm] 78)
  have HA:=Lib.hid (h.below hal)
  have hnx:=h.new (Nat.le_refl w.heap.size)
  obtain ⟨c0,c1,c2,c3,c4,c5,c6,c7,c8,c9,c10,c11,hlt⟩:=zBA (h.below hal).blk
  obtain ⟨x0,x1,x2,x3,x4,x5,x6,x7,x8⟩:=box9 g0
  have flt:=zB g0
  have S0:RStep w b a m (w.alloc (.cells #[.int .i64 xk,.int .i64 ((q:Int)+1),.int .i64 xd,.int .i64 xt,.int .i64 xi,.int .i64 xl,.int .i64 xc,.bool xy,.slice am xe.length cm] 78)) a m:=.of_below hal
  by_cases hno:m.role≠1∨xt≠m.term∨xy=false
  · have HV:Hid (m.voted ⟨xk,((q:Int)+1),xd,xt,xi,xl,xc,xy,xe⟩=(m,[])):=if_pos hno
    have hcase:(m.role != 1)=true∨((m.role != 1)=false∧(xt != m.term)=true)∨((m.role != 1)=false∧(xt != m.term)=false∧xy=false):=by
      by_cases h1:m.role=1
      · by_cases h2:xt=m.term
        · right;right
          refine ⟨by simp [h1],by simp [h2],?_⟩
          rcases hno with h3 | h3 | h3
          · exact (h3 h1).elim
          · exact (h3 h2).elim
          · exact h3
        · right;left;exact ⟨by simp [h1],by simpa using h2⟩
      · left;simpa using h1
    clear hno
    rcases hcase with h1 | ⟨h1,h2⟩ | ⟨h1,h2,h3⟩
    · go_enter Tryz.func86,Tryz.ntmps86
      go_wp2
      go_quiet (fail)
      go_wp2
      go_ret
      rw [HV.out]
      exact RetRR.nil (HA.out.many _) (S0.below (Below.many (zK _) _))
    · go_enter Tryz.func86,Tryz.ntmps86
      go_wp2
      go_quiet (fail)
      go_wp2
      go_ret
      rw [HV.out]
      exact RetRR.nil (HA.out.many _) (S0.below (Below.many (zK _) _))
    · subst h3
      go_enter Tryz.func86,Tryz.ntmps86
      go_wp2
      go_quiet (fail)
      go_wp2
      go_ret
      rw [HV.out]
      exact RetRR.nil (HA.out.many _) (S0.below (Below.many (zK _) _))
  have HV:Hid (m.voted ⟨xk,((q:Int)+1),xd,xt,xi,xl,xc,xy,xe⟩=if (m.counted ⟨xk,((q:Int)+1),xd,xt,xi,xl,xc,xy,xe⟩).won=true then ((m.counted ⟨xk,((q:Int)+1),xd,xt,xi,xl,xc,xy,xe⟩).lead,(m.counted ⟨xk,((q:Int)+1),xd,xt,xi,xl,xc,xy,xe⟩).lead.adds) else (m.counted ⟨xk,((q:Int)+1),xd,xt,xi,xl,xc,xy,xe⟩,[])):=if_neg hno
  have h1:(m.role != 1)=false:=by
    by_cases h:m.role=1
    · simp [h]
    · exact (hno (.inl h)).elim
  have ht:1≤m.term:=hok.live (by simp at h1;omega)
  have h2:(xt != m.term)=false:=by
    by_cases h:xt=m.term
    · simp [h]
    · exact (hno (.inr (.inl h))).elim
  have h3:xy=true:=by
    cases hy:xy with
    | true=>rfl
    | false=>exact (hno (.inr (.inr hy))).elim
  have HOKC:=Lib.hid (hok.counted ⟨xk,((q:Int)+1),xd,xt,xi,xl,xc,xy,xe⟩ ⟨hx1,by have:=hok.n16;show ((q:Int)+1)≤16;omega⟩)
  clear hno
  subst h3
  go_enter Tryz.func86,Tryz.ntmps86
  go_wp2
  go_quiet (fail)
  go_wp2
  have H1:=HA.out.many nq
  have g1:=zI g0 nq
  have S1:=S0.below (Below.many (zK _) nq)
  clear c0 c1 c2 c3 c4 c5 c6 c7 c8 c9 c10 c11 hlt x0 x1 x2 x3 x4 x5 x6 x7 x8 flt HA S0 g0 hal
  generalize (w.alloc (.cells #[.int .i64 xk,.int .i64 ((q:Int)+1),.int .i64 xd,.int .i64 xt,.int .i64 xi,.int .i64 xl,.int .i64 xc,.bool true,.slice am xe.length cm] 78)).drewN nq=W1 at *
  obtain ⟨c0,c1,c2,c3,c4,c5,c6,c7,c8,c9,c10,c11,hlt⟩:=zBA H1.blk
  obtain ⟨x0,x1,x2,x3,x4,x5,x6,x7,x8⟩:=box9 g1
  have flt:=zB g1
  have hdn:q<m.prog.length:=by omega
  have hqn:(q:Int)<m.prog.length:=by omega
  have hq0:(0:Int)≤(q:Int):=by omega
  have hwi:=zS (x:=(q:Int)) (by have:=hok.n16;omega) (by have:=hok.n16;omega)
  have v1:=zN H1.votes q
  have v2:=zB H1.votes
  have v3:W1.cell? ⟨a.va,q,none⟩=some (.bool (decide (((q:Int)+1) ∈ m.votes))):=(zE H1.votes q).trans (by simp [zDE,hdn])
  have HMj:Hid (∀ j:Int,j ∈ (m.counted ⟨xk,((q:Int)+1),xd,xt,xi,xl,xc,true,xe⟩).votes ↔ j ∈ m.votes∨j=(q:Int)+1):=fun j=>by
    unfold Mb.counted
    simp only
    split
    · rename_i hin
      constructor
      · exact .inl
      · rintro (h | h)
        · exact h
        · rw [h];exact hin
    · simp
  have M3:RMAt (W1.setCell ⟨a.va,q,none⟩ (.bool true)) b a (m.counted ⟨xk,((q:Int)+1),xd,xt,xi,xl,xc,true,xe⟩):=by
    have:=H1.setV (k:=(q:Int)+1) (vs:=(m.counted ⟨xk,((q:Int)+1),xd,xt,xi,xl,xc,true,xe⟩).votes) (by omega) (by omega) HMj.out
    rw [show ((q:Int)+1 - 1).toNat=q by omega] at this
    exact this
  have S3:RStep w b a m (W1.setCell ⟨a.va,q,none⟩ (.bool true)) a (m.counted ⟨xk,((q:Int)+1),xd,xt,xi,xl,xc,true,xe⟩):=S1.set (by simp [rfoot]) q _ rfl
  have hcl:(m.counted ⟨xk,((q:Int)+1),xd,xt,xi,xl,xc,true,xe⟩).prog.length=m.prog.length:=rfl
  have n16:=hok.n16
  have HCN:Hid (cntN (m.counted ⟨xk,((q:Int)+1),xd,xt,xi,xl,xc,true,xe⟩).votes m.prog.length=(m.counted ⟨xk,((q:Int)+1),xd,xt,xi,xl,xc,true,xe⟩).votes.length):=cntN_all HOKC.out.nodup (fun v hv=>by
    rcases (HMj.out v).1 hv with h | h
    · exact H1.vn v h
    · omega)
  have HWN:Hid ((m.counted ⟨xk,((q:Int)+1),xd,xt,xi,xl,xc,true,xe⟩).won=decide (majN m.prog.length≤(m.counted ⟨xk,((q:Int)+1),xd,xt,xi,xl,xc,true,xe⟩).votes.length)):=rfl
  have htc:1≤(m.counted ⟨xk,((q:Int)+1),xd,xt,xi,xl,xc,true,xe⟩).term:=ht
  have HM:Hid (∀ W,Calls Tryz.prog 76 #[.int .i64 (m.prog.length:Nat)] W fun e w'=>e=.returned (.int .i64 ((majN m.prog.length:Nat):Int))∧W=w'):=fun W=>by
    have:=refMajority_any (m.prog.length:Int) (by omega) (by omega) W
    rw [if_neg (by omega)] at this
    unfold majN
    rwa [show ((m.prog.length / 2+1:Nat):Int)=(m.prog.length:Int) / 2+1 by omega]
  have hgA:=zL (i:=q) g1 (show w.heap.size≠a.va from fun e=>hnx (by simp [rfoot,e])) (.bool true)
  go_still_tail 8,(by kernel_rfl)
  show wpList _ _ _ _ _ W1.drew
  go_upto_region 4 with fail
  clear v1 v3 c0 c1 c2 c3 c4 c5 c6 c7 c8 c9 c10 c11 hlt x0 x1 x2 x3 x4 x5 x6 x7 x8 flt
  generalize (m.counted ⟨xk,((q:Int)+1),xd,xt,xi,xl,xc,true,xe⟩)=mc at *
  generalize W1.setCell ⟨a.va,q,none⟩ (.bool true)=W3 at *
  replace M3:=M3.drew
  replace S3:=S3.below (Below.refl _ _).drew
  generalize W3.drew=W4 at *
  have HC3:Hid (∀ k,(hk:k<m.prog.length) → (zDE mc).toArray[k]?=some (.bool (decide (((k:Int)+1) ∈ mc.votes)))):=fun k hk=>by simp [zDE,hcl,hk]
  have hmv:=M3.votes
  have hvl:=zB hmv
  have hblk:=M3.blk
  simp only [rmC,hcl] at hblk
  obtain ⟨c0,c1,c2,c3,c4,c5,c6,c7,c8,c9,c10,c11,hlt⟩:=zBA hblk
  clear hblk
  go_wp2
  go_loop [5,6] (fun v k=>∃ j:Nat,j≤m.prog.length∧k=.int .i64 (j:Int)∧v=.int .i64 ((cntN mc.votes j:Nat):Int)) (fun _ k=>m.prog.length - (intOf k).toNat)
  case atStart=>exact ⟨0,by omega,rfl,rfl⟩
  case round =>
    obtain ⟨j,hj,rfl,rfl⟩:=hrel
    by_cases hlt:j<m.prog.length
    · have hj0:(0:Int)≤(j:Int):=by omega
      have hj1:(j:Int)<(m.prog.length:Int):=by omega
      have hc:=(zE hmv j).trans (HC3.out j hlt)
      have hle:=cntN_le mc.votes j
      have HS:=Lib.hid (cntN_succ mc.votes j)
      have hw1:=zS (x:=(j:Int)+1) (by omega) (by omega)
      have hw2:=zS (x:=((cntN mc.votes j:Nat):Int)+1) (by omega) (by omega)
      by_cases hv:((j:Int)+1) ∈ mc.votes
      · rw [decide_eq_true hv] at hc
        rw [if_pos hv] at HS
        clear hv
        go_wp2
        exact ⟨⟨j+1,by omega,by go_num,by rw [HS.out];go_num⟩,by simp [intOf];omega⟩
      · rw [decide_eq_false hv] at hc
        rw [if_neg hv] at HS
        clear hv
        go_wp2
        exact ⟨⟨j+1,by omega,by go_num,by rw [HS.out];rfl⟩,by simp [intOf];omega⟩
    · have hje:j=m.prog.length:=by omega
      subst hje
      have hj1:¬ (m.prog.length:Int)<(m.prog.length:Int):=by omega
      rw [HCN.out]
      rw [HCN.out] at *
      by_cases hw:majN m.prog.length≤mc.votes.length
      · have hw1:¬ ((mc.votes.length:Int)<((majN m.prog.length:Nat):Int)):=by omega
        have HV2:=Lib.hid (HV.out.trans (if_pos (by rw [HWN.out];exact decide_eq_true hw)))
        have HLE:=Lib.hid (rlead_any M3 HOKC.out htc)
        clear hw
        go_wp2_with (first
          | (go_at_call 76;refine (HM.out _).mono ?_;rintro e wx ⟨rfl,hwx⟩;subst hwx)
          | (go_at_call 77;refine HLE.out.mono ?_;rintro e w5 ⟨a5,B5,A5,c5',sl5,rfl,M5,S5,hB5,hF5,ms5⟩))
        go_ret
        rw [HV2.out]
        exact ⟨a5,B5,A5,c5',sl5,rfl,M5,S3.trans S5,Nat.le_trans S3.chg.size hB5,hF5,ms5⟩
      · have hw1:(mc.votes.length:Int)<((majN m.prog.length:Nat):Int):=by omega
        have HV2:=Lib.hid (HV.out.trans (if_neg (by rw [HWN.out];simpa using hw)))
        clear hw
        go_wp2_with (go_at_call 76;refine (HM.out _).mono ?_;rintro e wx ⟨rfl,hwx⟩;subst hwx)
        go_ret
        rw [HV2.out]
        exact RetRR.nil M3 S3
end
end Go.Proofs.YtnljdkglncmfaaaGreat
