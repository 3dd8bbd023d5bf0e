/-
  Part Gb of the proof.
-/
import Derived.Test.YtnljdkglncmfaaaGreatGa
import Derived.Test.YtnljdkglncmfaaaGreatBq
import Derived.Test.YtnljdkglncmfaaaGreatBr
import Derived.Test.YtnljdkglncmfaaaGreatGp
import Derived.Test.YtnljdkglncmfaaaGreatBh
import Derived.Test.YtnljdkglncmfaaaGreatRf
namespace Go.Proofs.YtnljdkglncmfaaaGreat
open Go.RowKit
set_option linter.unusedVariables false
set_option maxRecDepth 100000 in
set_option maxHeartbeats 6400000 in
theorem gcrash_any {w:World} {G:Nat} {L:GL} {g:Gr} (h:GAt w G L g) (i:Nat) {p:Mb × Vt} (hp:g.ms[i]?=some p) (hn:g.ms.length≤16) (hx:VtOk p.2) (hl:p.2.1.length≤65536) (keep:Int)
    (hok:newOk ((i:Int)+1) g.ms.length (zAD p.2 keep).2.2.1 (zAD p.2 keep).2.2.2.1 0 0 (zAD p.2 keep).2.2.2.2=true) :
    Calls Tryz.prog 36 #[.pointer (some ⟨G,0,none⟩),.int .i64 ((i:Int)+1),.int .i64 keep] w (RetG ⟨g.ms.set i (fresh ((i:Int)+1) g.ms.length (zAD p.2 keep),zAD p.2 keep),g.net⟩ G L (.tuple #[]) w):=by
  have hi:i<g.ms.length:=(List.getElem?_eq_some_iff.1 hp).1
  obtain ⟨q,hq⟩:=h.slots hi
  have HOF:=Lib.hid (of_any h i hi hn)
  obtain ⟨c0,c1,f0,f1,hlt⟩:=h.ptrs hq
  obtain ⟨hM,hV⟩:=h.mem i q p hq hp
  obtain ⟨csV,hcsV⟩:=hV.blkV
  have hVlt:=zB hcsV
  have HCR:Hid (Calls Tryz.prog 71 #[.pointer (some ⟨q.v,0,none⟩),.int .i64 keep] w fun e w'=>e=.returned (.tuple #[])∧VtAt w' q.v (q.v+1) (fun y=>y ∈ q.r∨w.heap.size≤y) (zAD p.2 keep)∧Only q.v w w'):=by
    obtain ⟨D,cd,A',c',g1,o1,o2,oP⟩:=hV
    exact crash_any q.v (q.v+1) p.2 keep w (fun y hy=>.inr hy) ⟨D,cd,A',c',g1,o1,o2,fun y hy=>.inl (oP y hy)⟩ (by omega) (by omega) hx (by omega)
  have hk:=crashV_ok hx keep
  have HAN:Hid (∀ W L1,GAt W G L1 ⟨g.ms.set i (p.1,zAD p.2 keep),g.net⟩ → Calls Tryz.prog 26 #[.pointer (some ⟨G,0,none⟩),.int .i64 ((i:Int)+1)] W (RetG ⟨(g.ms.set i (p.1,zAD p.2 keep)).set i (fresh ((i:Int)+1) g.ms.length (zAD p.2 keep),zAD p.2 keep),g.net⟩ G L1 (.tuple #[]) W)):=fun W L1 h1=>by
    have hi1:i<(g.ms.set i (p.1,zAD p.2 keep)).length:=by rw [List.length_set];exact hi
    obtain ⟨q1,hq1⟩:=h1.slots hi1
    have:=anew_any h1 i (p:=(p.1,zAD p.2 keep)) hq1 (by simp [hi]) (by simp only [List.length_set];exact hn) hk (by simp only [List.length_set];exact hok)
    simpa only [List.length_set] using this
  have HG:=Lib.hid h
  generalize zAD p.2 keep=y at *
  clear h hM hV hx hl hk hok
  go_enter Tryz.func36,Tryz.ntmps36
  go_wp2_with (first
    | (go_at_call 29;refine HOF.out.mono ?_;rintro e wx ⟨rfl,hwx⟩;subst hwx)
    | (go_at_call 71;refine HCR.out.mono ?_;rintro e w2 ⟨rfl,hv2,hO2⟩;obtain ⟨L2,h2,S2,_⟩:=HG.out.disk hq hp hO2 hv2;have HA2:=Lib.hid (HAN.out _ _ h2))
    | (go_at_call 26;refine HA2.out.mono ?_;rintro e w3 ⟨L3,rfl,h3,S3⟩))
  refine bodyPost_end (results_none rfl _ _ _) rfl ?_
  rw [List.set_set] at h3
  exact ⟨L3,rfl,h3,S2.trans S3⟩
theorem msV_take (k : Nat) : ∀ (ms : List Ms) (sl : List (Option Addr × Nat)), sl.length = ms.length → (msV ms sl).take (k * 9) = msV (ms.take k) (sl.take k) := by
  induction k with
  | zero=>intro ms sl h;simp [msV]
  | succ k ih =>
    intro ms sl h
    cases ms with
    | nil=>simp [msV]
    | cons m ms =>
      cases sl with
      | nil=>simp at h
      | cons s sl =>
        simp only [List.length_cons,Nat.add_right_cancel_iff] at h
        simp only [List.take_succ_cons,msV,List.headD_cons,List.tail_cons]
        have hc:(m.cells s.1 s.2).length=9:=rfl
        rw [List.take_append,hc,List.take_of_length_le (by rw [hc];omega),show (k+1) * 9 - 9=k * 9 by omega,ih ms sl h]
theorem msV_drop (k : Nat) : ∀ (ms : List Ms) (sl : List (Option Addr × Nat)), sl.length = ms.length → (msV ms sl).drop (k * 9) = msV (ms.drop k) (sl.drop k) := by
  induction k with
  | zero=>intro ms sl h;simp
  | succ k ih =>
    intro ms sl h
    cases ms with
    | nil=>simp [msV]
    | cons m ms =>
      cases sl with
      | nil=>simp at h
      | cons s sl =>
        simp only [List.length_cons,Nat.add_right_cancel_iff] at h
        simp only [List.drop_succ_cons,msV,List.headD_cons,List.tail_cons]
        have hc:(m.cells s.1 s.2).length=9:=rfl
        rw [List.drop_append,hc,List.drop_of_length_le (by rw [hc];omega),List.nil_append,show (k+1) * 9 - 9=k * 9 by omega,ih ms sl h]
theorem MsAt.ent {w:World} {base:Nat} {A:Option Addr} {c:Nat} {ms:List Ms} {sl:List (Option Addr × Nat)} (h:MsAt w base A c ms sl) {k:Nat} {x:Ms} {s:Option Addr × Nat} (hk:ms[k]?=some x) (hs:sl[k]?=some s):w.ownsRow base 42 7 (.slice s.1 x.ents.length s.2) x.ents.length (ensV x.ents):=by
  obtain ⟨hk1,hk2⟩:=List.getElem?_eq_some_iff.1 hk
  have:=h.ents k hk1
  rw [List.getD_eq_getElem?_getD,hs,hk2] at this
  exact this
theorem MsAt.mk2 {w:World} {base:Nat} {A:Option Addr} {c:Nat} {ms:List Ms} {sl:List (Option Addr × Nat)} (h1:w.ownsRow base 78 9 (.slice A ms.length c) ms.length (msV ms sl)) (h2:sl.length=ms.length) (h3:∀ (k:Nat) (x:Ms) (s:Option Addr × Nat),ms[k]?=some x → sl[k]?=some s → w.ownsRow base 42 7 (.slice s.1 x.ents.length s.2) x.ents.length (ensV x.ents)):MsAt w base A c ms sl:=by
  refine ⟨h1,h2,fun k hk => ?_⟩
  have hk2:k<sl.length:=by rw [h2];exact hk
  rw [List.getD_eq_getElem?_getD,List.getElem?_eq_getElem hk2]
  exact h3 k _ _ (List.getElem?_eq_getElem hk) (List.getElem?_eq_getElem hk2)
theorem MsAt.erase {w w2:World} {A A2:Option Addr} {c c2:Nat} {ms:List Ms} {sl:List (Option Addr × Nat)} (h:MsAt w 0 A c ms sl) (k:Nat) (hk:k<ms.length) (hc:Below w.heap.size w w2)
    (hown:w2.ownsRow 0 78 9 (.slice A2 (ms.length - 1) c2) (ms.length - 1) ((msV ms sl).take (k * 9) ++ (msV ms sl).drop ((k+1) * 9))):MsAt w2 0 A2 c2 (ms.eraseIdx k) (sl.eraseIdx k):=by
  have hl:(ms.eraseIdx k).length=ms.length - 1:=by rw [List.length_eraseIdx,if_pos hk]
  have e:(msV ms sl).take (k * 9) ++ (msV ms sl).drop ((k+1) * 9)=msV (ms.eraseIdx k) (sl.eraseIdx k):=by
    rw [msV_take k ms sl h.len,msV_drop (k+1) ms sl h.len,List.eraseIdx_eq_take_drop_succ,List.eraseIdx_eq_take_drop_succ,msV_append (by simp [h.len])]
  rw [e] at hown
  refine MsAt.mk2 (by rw [hl];exact hown) (by rw [List.length_eraseIdx,List.length_eraseIdx,h.len]) fun j x s hx hs => ?_
  rw [List.getElem?_eraseIdx] at hx hs
  split at hx
  · rename_i hlt
    rw [if_pos hlt] at hs
    exact zD (h.ent hx hs) hc
  · rename_i hlt
    rw [if_neg hlt] at hs
    exact zD (h.ent hx hs) hc
theorem msg_nine {w:World} {A:Option Addr} {ms:List Ms} {sl:List (Option Addr × Nat)} (h:RowAt w A (msV ms sl)) {k:Nat} {x:Ms} {s:Option Addr × Nat} (hk:ms[k]?=some x) (hs:sl[k]?=some s) :
    ∃ b off, A = some ⟨b, off, none⟩ ∧ b < w.heap.size ∧ w.cell? ⟨b, off + k * 9, none⟩ = some (.int .i64 x.kind) ∧ w.cell? ⟨b, off + k * 9 + 1, none⟩ = some (.int .i64 x.frm) ∧ w.cell? ⟨b, off + k * 9 + 2, none⟩ = some (.int .i64 x.dst) ∧
      w.cell? ⟨b,off+k * 9+3,none⟩=some (.int .i64 x.term)∧w.cell? ⟨b,off+k * 9+4,none⟩=some (.int .i64 x.index)∧w.cell? ⟨b,off+k * 9+5,none⟩=some (.int .i64 x.lterm)∧w.cell? ⟨b,off+k * 9+6,none⟩=some (.int .i64 x.commit)∧w.cell? ⟨b,off+k * 9+7,none⟩=some (.bool x.yes)∧w.cell? ⟨b,off+k * 9+8,none⟩=some (.slice s.1 x.ents.length s.2):=by
  obtain ⟨hk1,hk2⟩:=List.getElem?_eq_some_iff.1 hk
  have hj:∀ j,j<9 → (msV ms sl)[k * 9+j]?=(x.cells s.1 s.2)[j]?:=fun j hj=>by
    have:=msV_at (sl:=sl) hk1 hj
    rw [List.getD_eq_getElem?_getD,hs,hk2] at this
    exact this
  rcases h with h | ⟨b,off,ha,hlt,hc⟩
  · have:=congrArg List.length h
    rw [msV_length] at this
    simp at this
    omega
  · refine ⟨b,off,ha,hlt,?_⟩
    have e:∀ j,off+k * 9+j=off+(k * 9+j):=fun j=>by omega
    rw [e 1,e 2,e 3,e 4,e 5,e 6,e 7,e 8]
    exact ⟨hc _ _ (hj 0 (by omega)),hc _ _ (hj 1 (by omega)),hc _ _ (hj 2 (by omega)),hc _ _ (hj 3 (by omega)),hc _ _ (hj 4 (by omega)),hc _ _ (hj 5 (by omega)),hc _ _ (hj 6 (by omega)),hc _ _ (hj 7 (by omega)),hc _ _ (hj 8 (by omega))⟩
theorem own_some {w:World} {base:Nat} {e:TypeId} {size:Nat} {A:Option Addr} {n cap:Nat} {xs:List Value} (h:w.ownsRow base e size (.slice A n cap) n xs) (hn:0<n):∃ b,A=some ⟨b,0,none⟩:=by
  rcases h.2 with ⟨_,h0⟩ | ⟨g,c,cur,hv,_⟩
  · omega
  · injection hv with h1
    exact ⟨g,h1⟩
def RetTake (g:Gr) (k:Nat) (x:Ms) (s:Option Addr × Nat) (G:Nat) (L:GL) (w:World) (e:Ending) (w':World):Prop :=
  ∃ L',e=.returned (x.val s.1 s.2)∧GAt w' G L' (g.take k)∧GStep w G L w' L'∧w'.ownsRow 0 42 7 (.slice s.1 x.ents.length s.2) x.ents.length (ensV x.ents)∧L'.mem=L.mem
set_option maxRecDepth 100000 in
set_option maxHeartbeats 6400000 in
theorem take_any {w:World} {G:Nat} {L:GL} {g:Gr} (h:GAt w G L g) (k:Nat) {x:Ms} {s:Option Addr × Nat} (hx:g.net[k]?=some x) (hs:L.sl[k]?=some s) (hnet:g.net.length≤1000000) :
    Calls Tryz.prog 33 #[.pointer (some ⟨G,0,none⟩),.int .i64 (k:Int)] w (RetTake g k x s G L w):=by
  obtain ⟨hk,_⟩:=List.getElem?_eq_some_iff.1 hx
  obtain ⟨b,off,hna,hblt,x0,x1,x2,x3,x4,x5,x6,x7,x8⟩:=msg_nine (RowAt.of_own h.net.own) hx hs
  obtain ⟨c0,c1,f0,f1,hlt⟩:=h.cells
  have HE:=Lib.hid (h.net.ent hx hs)
  have HCL:Hid (∀ W,Below w.heap.size w W → Calls Tryz.prog 64 #[.slice L.na g.net.length L.nc] W (zAZ 78 9 g.net.length (msV g.net L.sl) W)):=fun W hb=>cloneM_any L.na L.nc g.net.length (msV g.net L.sl) W ((RowAt.of_own h.net.own).below hb) (fun e=>by rw [e] at hna;cases hna) (msV_length _ _) (msV_one _ _) hnet
  have HDE:Hid (∀ W b2 c2,W.ownsRow b2 78 9 (.slice (some ⟨b2,0,none⟩) g.net.length c2) g.net.length (msV g.net L.sl) → Calls Tryz.prog 63 #[.slice (some ⟨b2,0,none⟩) g.net.length c2,.int .i64 (k:Int),.int .i64 ((k:Int)+1)] W (RetDel b2 c2 (g.net.length - 1) ((msV g.net L.sl).take (k * 9) ++ (msV g.net L.sl).drop ((k+1) * 9)) W)):=fun W b2 c2 ho=>deleteM_any b2 c2 g.net.length k _ W ho (msV_one _ _) hk hnet
  have HG:=Lib.hid h
  have hk0:(0:Int)≤(k:Int):=by omega
  have hk1:(k:Int)<(g.net.length:Int):=by omega
  have hwr:IntKind.i64.wrap ((k:Int)+1)=(k:Int)+1:=zS (by omega) (by omega)
  have hnaL:=h.net.own
  rw [hna] at c1 HCL hnaL
  obtain ⟨xk,xf,xd,xt,xi,xl,xc,xy,xe⟩:=x
  obtain ⟨sa,sc⟩:=s
  simp only at x0 x1 x2 x3 x4 x5 x6 x7 x8
  clear h
  go_enter Tryz.func33,Tryz.ntmps33
  have hal:=zAE w (.cells #[.int .i64 0,.int .i64 0,.int .i64 0,.int .i64 0,.int .i64 0,.int .i64 0,.int .i64 0,.bool false,.slice none 0 0] 78) (.cells #[.int .i64 xk,.int .i64 xf,.int .i64 xd,.int .i64 xt,.int .i64 xi,.int .i64 xl,.int .i64 xc,.bool xy,.slice sa xe.length sc] 78)
  have e0:=zT w (.cells #[.int .i64 0,.int .i64 0,.int .i64 0,.int .i64 0,.int .i64 0,.int .i64 0,.int .i64 0,.bool false,.slice none 0 0] 78) (.cells #[.int .i64 xk,.int .i64 xf,.int .i64 xd,.int .i64 xt,.int .i64 xi,.int .i64 xl,.int .i64 xc,.bool xy,.slice sa xe.length sc] 78)
  have e1:=zR w (.cells #[.int .i64 0,.int .i64 0,.int .i64 0,.int .i64 0,.int .i64 0,.int .i64 0,.int .i64 0,.bool false,.slice none 0 0] 78) (.cells #[.int .i64 xk,.int .i64 xf,.int .i64 xd,.int .i64 xt,.int .i64 xi,.int .i64 xl,.int .i64 xc,.bool xy,.slice sa xe.length sc] 78)
  go_upto_region 2 with fail
  clear x0 x1 x2 x3 x4 x5 x6 x7 x8
  generalize (w.alloc (.cells #[.int .i64 0,.int .i64 0,.int .i64 0,.int .i64 0,.int .i64 0,.int .i64 0,.int .i64 0,.bool false,.slice none 0 0] 78)).alloc (.cells #[.int .i64 xk,.int .i64 xf,.int .i64 xd,.int .i64 xt,.int .i64 xi,.int .i64 xl,.int .i64 xc,.bool xy,.slice sa xe.length sc] 78)=W0 at *
  have gW:=zA hal HG.out.blk
  have hF0:w.heap.size≠G:=by omega
  have hF1:w.heap.size+1≠G:=by omega
  clear c0 c1 f0 f1 hlt
  obtain ⟨c0,c1,f0,f1,hlt⟩:=box2 gW
  rw [hna] at c1
  go_upto_region 3 with (first
    | (go_at_call 64;refine (HCL.out _ hal).mono ?_;rintro e w1 ⟨a1,c1',rfl,own1,hb1⟩;obtain ⟨b1,rfl⟩:=own_some own1 (by omega);have hb1lt:=zAU own1 b1 (by simp [zU]);have D1:=Lib.hid (HDE.out _ b1 c1' (own_rebase own1 (fun y hy=>by simp [zU] at hy;omega)));have gW1:=zA hb1 gW;have e01:=zA hb1 e0;have e11:=zA hb1 e1)
    | (go_at_call 63;refine D1.out.mono ?_;rintro e w2 ⟨rfl,own2,hC2⟩;have gW2:=hC2.keep gW1 (by simp;have:=zB gW;omega);have e02:=hC2.keep e01 (by simp;have:=zB e0;omega);have e12:=hC2.keep e11 (by simp;have:=zB e1;omega);clear c0 c1 f0 f1 hlt;obtain ⟨c0,c1,f0,f1,hlt⟩:=box2 gW2))
  have hz1:=hb1.size
  have hzl:=zB e1
  have hzl0:=zB e0
  have hz2:=hC2.size
  have gW3:=zQ (i:=1) gW2 (.slice (some ⟨b1,0,none⟩) (g.net.length - 1) c1')
  have e03:=zL (i:=1) (G:=G) e02 hF0 (.slice (some ⟨b1,0,none⟩) (g.net.length - 1) c1')
  have e13:=zL (i:=1) (G:=G) e12 hF1 (.slice (some ⟨b1,0,none⟩) (g.net.length - 1) c1')
  have hb2:Below w.heap.size w w2:=(hal.trans (hb1.mono hal.size)).trans (hC2.to_below (fun y hy=>by simp at hy;omega) (by omega))
  have hms:=HG.out.net.erase k hk hb2 (zW own2 (Nat.zero_le _))
  obtain ⟨hG4,hC4,hS4⟩:=HG.out.netTo (B0:=w.heap.size+2) (na:=some ⟨b1,0,none⟩) (nc:=c1') (l:=g.net.eraseIdx k) (sl:=L.sl.eraseIdx k) (Chg.of_below hb2) hms (fun s hs y hy r hr=>HG.out.sep s (List.mem_of_mem_eraseIdx hs) y hy r hr) (fun y hy=>by simp [zU] at hy;right;omega) (fun s hs y hy=>.inl (gall_s (List.mem_of_mem_eraseIdx hs) hy))
  have hle:(g.net.eraseIdx k).length=g.net.length - 1:=by rw [List.length_eraseIdx,if_pos hk]
  rw [hle] at hG4 hC4
  have HE4:=zBT (zD HE.out hb2) (fun y hy=>by
    obtain ⟨cs,hcs⟩:=zAY HE.out hy
    exact zBK hcs HG.out.blk (by decide)) 1 (.slice (some ⟨b1,0,none⟩) (g.net.length - 1) c1')
  clear c0 c1 f0 f1 hlt
  generalize w2.setCell ⟨G,1,none⟩ (.slice (some ⟨b1,0,none⟩) (g.net.length - 1) c1')=W4 at *
  obtain ⟨d0,d1,d2,d3,d4,d5,d6,d7,d8⟩:=box9 e13
  obtain ⟨z0,z1,z2,z3,z4,z5,z6,z7,z8⟩:=box9 e03
  obtain ⟨t0,t1,t2,t3,t4,t5,t6,t7,t8,_⟩:=fro9 e03
  have zlt:=zB e03
  have dlt:=zB e13
  go_wp2
  obtain ⟨k0,k1,k2,k3,k4,k5,k6,k7,k8⟩:=box9 (set9_blk e03 (.int .i64 xk) (.int .i64 xf) (.int .i64 xd) (.int .i64 xt) (.int .i64 xi) (.int .i64 xl) (.int .i64 xc) (.bool xy) (.slice sa xe.length sc))
  refine bodyPost_ret (v:=(Ms.mk xk xf xd xt xi xl xc xy xe).val sa sc) (by simp [results,Tryz.results33,go_sem,k0,k1,k2,k3,k4,k5,k6,k7,k8]) rfl ?_
  have hCF:Chg [w.heap.size] W4 (set9 W4 w.heap.size (.int .i64 xk) (.int .i64 xf) (.int .i64 xd) (.int .i64 xt) (.int .i64 xi) (.int .i64 xl) (.int .i64 xc) (.bool xy) (.slice sa xe.length sc)):=(((((((((Chg.refl _ _).setCell (.inl (by simp)) 0 _).setCell (.inl (by simp)) 1 _).setCell (.inl (by simp)) 2 _).setCell (.inl (by simp)) 3 _).setCell (.inl (by simp)) 4 _).setCell (.inl (by simp)) 5 _).setCell (.inl (by simp)) 6 _).setCell (.inl (by simp)) 7 _).setCell (.inl (by simp)) 8 _
  have hltA:=HG.out.gltAll
  refine ⟨_,rfl,hG4.chgOut hCF (fun y hy hc => ?_),⟨hC4.trans hCF fun y hy=>by simp at hy;exact .inr (by omega),fun y hy => ?_⟩,zAL HE4 hCF fun y hy hc => ?_,rfl⟩
  · simp at hc
    subst hc
    rcases hS4 _ hy with h1 | h1
    · have:=hltA _ h1;omega
    · omega
  · rcases hS4 y hy with h1 | h1
    · exact .inl h1
    · exact .inr (by omega)
  · simp at hc
    subst hc
    obtain ⟨cs,hcs⟩:=zAY HE.out hy
    have:=zB hcs
    omega
abbrev itV (k a b c:Int):Value:=.agg #[.int .i64 k,.int .i64 a,.int .i64 b,.int .i64 c]
theorem box4 {w:World} {F:Nat} {c0 c1 c2 c3:Value} {t:TypeId} (h:w.heap[F]?=some (.cells #[c0,c1,c2,c3] t)):w.cell? ⟨F,0,none⟩=some c0∧w.cell? ⟨F,1,none⟩=some c1∧w.cell? ⟨F,2,none⟩=some c2∧w.cell? ⟨F,3,none⟩=some c3∧w.frozen? ⟨F,1,none⟩=false∧F<w.heap.size :=
  ⟨zE h 0,zE h 1,zE h 2,zE h 3,zN h 1,zB h⟩
theorem there_m {g:Gr} {k a:Int} (hk:k=0∨k=1∨k=2∨k=6):g.there k a=if a<1∨(g.ms.length:Int)<a then 5 else 0:=if_pos hk
theorem there_x {g:Gr} {k a:Int} (hk:k=3∨k=4∨k=5∨k=7):g.there k a=if a<0∨(g.net.length:Int)≤a then 5 else 0:=by
  unfold Gr.there
  rw [if_neg (by omega),if_pos hk]
theorem there_o {g:Gr} {k a:Int} (hk:k<0∨7<k):g.there k a=1:=by
  unfold Gr.there
  rw [if_neg (by omega),if_neg (by omega)]
set_option maxRecDepth 100000 in
set_option maxHeartbeats 6400000 in
theorem there_any {w:World} {G:Nat} {L:GL} {g:Gr} (h:GAt w G L g) (k a b c:Int):Calls Tryz.prog 27 #[.pointer (some ⟨G,0,none⟩),itV k a b c] w fun e w'=>e=.returned (.int .i64 (g.there k a))∧Below w.heap.size w w':=by
  have hal:=zC w (.cells #[.int .i64 k,.int .i64 a,.int .i64 b,.int .i64 c] 31)
  obtain ⟨c0,c1,f0,f1,hlt⟩:=(h.below hal).cells
  have n1:(0:Int)≤(g.ms.length:Int):=by omega
  have n2:(0:Int)≤(g.net.length:Int):=by omega
  generalize hgt:g.there k a=T
  clear h
  by_cases e0:k=0
  · subst e0
    rw [there_m (by decide)] at hgt
    by_cases q1:a<1
    · have HT:Hid (T=5):=by rw [Hid,← hgt,if_pos (.inl q1)]
      clear hgt
      go_enter Tryz.func27,Tryz.ntmps27
      go_wp2
      go_ret
      rw [HT.out]
      exact ⟨rfl,hal⟩
    by_cases q2:(g.ms.length:Int)<a
    · have HT:Hid (T=5):=by rw [Hid,← hgt,if_pos (.inr q2)]
      clear hgt
      go_enter Tryz.func27,Tryz.ntmps27
      go_wp2
      go_ret
      rw [HT.out]
      exact ⟨rfl,hal⟩
    have HT:Hid (T=0):=by rw [Hid,← hgt,if_neg (by omega)]
    clear hgt
    go_enter Tryz.func27,Tryz.ntmps27
    go_wp2
    go_ret
    rw [HT.out]
    exact ⟨rfl,hal⟩
  by_cases e1:k=1
  · subst e1
    rw [there_m (by decide)] at hgt
    by_cases q1:a<1
    · have HT:Hid (T=5):=by rw [Hid,← hgt,if_pos (.inl q1)]
      clear hgt
      go_enter Tryz.func27,Tryz.ntmps27
      go_wp2
      go_ret
      rw [HT.out]
      exact ⟨rfl,hal⟩
    by_cases q2:(g.ms.length:Int)<a
    · have HT:Hid (T=5):=by rw [Hid,← hgt,if_pos (.inr q2)]
      clear hgt
      go_enter Tryz.func27,Tryz.ntmps27
      go_wp2
      go_ret
      rw [HT.out]
      exact ⟨rfl,hal⟩
    have HT:Hid (T=0):=by rw [Hid,← hgt,if_neg (by omega)]
    clear hgt
    go_enter Tryz.func27,Tryz.ntmps27
    go_wp2
    go_ret
    rw [HT.out]
    exact ⟨rfl,hal⟩
  by_cases e2:k=2
  · subst e2
    rw [there_m (by decide)] at hgt
    by_cases q1:a<1
    · have HT:Hid (T=5):=by rw [Hid,← hgt,if_pos (.inl q1)]
      clear hgt
      go_enter Tryz.func27,Tryz.ntmps27
      go_wp2
      go_ret
      rw [HT.out]
      exact ⟨rfl,hal⟩
    by_cases q2:(g.ms.length:Int)<a
    · have HT:Hid (T=5):=by rw [Hid,← hgt,if_pos (.inr q2)]
      clear hgt
      go_enter Tryz.func27,Tryz.ntmps27
      go_wp2
      go_ret
      rw [HT.out]
      exact ⟨rfl,hal⟩
    have HT:Hid (T=0):=by rw [Hid,← hgt,if_neg (by omega)]
    clear hgt
    go_enter Tryz.func27,Tryz.ntmps27
    go_wp2
    go_ret
    rw [HT.out]
    exact ⟨rfl,hal⟩
  by_cases e6:k=6
  · subst e6
    rw [there_m (by decide)] at hgt
    by_cases q1:a<1
    · have HT:Hid (T=5):=by rw [Hid,← hgt,if_pos (.inl q1)]
      clear hgt
      go_enter Tryz.func27,Tryz.ntmps27
      go_wp2
      go_ret
      rw [HT.out]
      exact ⟨rfl,hal⟩
    by_cases q2:(g.ms.length:Int)<a
    · have HT:Hid (T=5):=by rw [Hid,← hgt,if_pos (.inr q2)]
      clear hgt
      go_enter Tryz.func27,Tryz.ntmps27
      go_wp2
      go_ret
      rw [HT.out]
      exact ⟨rfl,hal⟩
    have HT:Hid (T=0):=by rw [Hid,← hgt,if_neg (by omega)]
    clear hgt
    go_enter Tryz.func27,Tryz.ntmps27
    go_wp2
    go_ret
    rw [HT.out]
    exact ⟨rfl,hal⟩
  by_cases e3:k=3
  · subst e3
    rw [there_x (by decide)] at hgt
    by_cases q1:a<0
    · have HT:Hid (T=5):=by rw [Hid,← hgt,if_pos (.inl q1)]
      clear hgt
      go_enter Tryz.func27,Tryz.ntmps27
      go_wp2
      go_ret
      rw [HT.out]
      exact ⟨rfl,hal⟩
    by_cases q2:(g.net.length:Int)≤a
    · have HT:Hid (T=5):=by rw [Hid,← hgt,if_pos (.inr q2)]
      clear hgt
      go_enter Tryz.func27,Tryz.ntmps27
      go_wp2
      go_ret
      rw [HT.out]
      exact ⟨rfl,hal⟩
    have HT:Hid (T=0):=by rw [Hid,← hgt,if_neg (by omega)]
    clear hgt
    go_enter Tryz.func27,Tryz.ntmps27
    go_wp2
    go_ret
    rw [HT.out]
    exact ⟨rfl,hal⟩
  by_cases e4:k=4
  · subst e4
    rw [there_x (by decide)] at hgt
    by_cases q1:a<0
    · have HT:Hid (T=5):=by rw [Hid,← hgt,if_pos (.inl q1)]
      clear hgt
      go_enter Tryz.func27,Tryz.ntmps27
      go_wp2
      go_ret
      rw [HT.out]
      exact ⟨rfl,hal⟩
    by_cases q2:(g.net.length:Int)≤a
    · have HT:Hid (T=5):=by rw [Hid,← hgt,if_pos (.inr q2)]
      clear hgt
      go_enter Tryz.func27,Tryz.ntmps27
      go_wp2
      go_ret
      rw [HT.out]
      exact ⟨rfl,hal⟩
    have HT:Hid (T=0):=by rw [Hid,← hgt,if_neg (by omega)]
    clear hgt
    go_enter Tryz.func27,Tryz.ntmps27
    go_wp2
    go_ret
    rw [HT.out]
    exact ⟨rfl,hal⟩
  by_cases e5:k=5
  · subst e5
    rw [there_x (by decide)] at hgt
    by_cases q1:a<0
    · have HT:Hid (T=5):=by rw [Hid,← hgt,if_pos (.inl q1)]
      clear hgt
      go_enter Tryz.func27,Tryz.ntmps27
      go_wp2
      go_ret
      rw [HT.out]
      exact ⟨rfl,hal⟩
    by_cases q2:(g.net.length:Int)≤a
    · have HT:Hid (T=5):=by rw [Hid,← hgt,if_pos (.inr q2)]
      clear hgt
      go_enter Tryz.func27,Tryz.ntmps27
      go_wp2
      go_ret
      rw [HT.out]
      exact ⟨rfl,hal⟩
    have HT:Hid (T=0):=by rw [Hid,← hgt,if_neg (by omega)]
    clear hgt
    go_enter Tryz.func27,Tryz.ntmps27
    go_wp2
    go_ret
    rw [HT.out]
    exact ⟨rfl,hal⟩
  by_cases e7:k=7
  · subst e7
    rw [there_x (by decide)] at hgt
    by_cases q1:a<0
    · have HT:Hid (T=5):=by rw [Hid,← hgt,if_pos (.inl q1)]
      clear hgt
      go_enter Tryz.func27,Tryz.ntmps27
      go_wp2
      go_ret
      rw [HT.out]
      exact ⟨rfl,hal⟩
    by_cases q2:(g.net.length:Int)≤a
    · have HT:Hid (T=5):=by rw [Hid,← hgt,if_pos (.inr q2)]
      clear hgt
      go_enter Tryz.func27,Tryz.ntmps27
      go_wp2
      go_ret
      rw [HT.out]
      exact ⟨rfl,hal⟩
    have HT:Hid (T=0):=by rw [Hid,← hgt,if_neg (by omega)]
    clear hgt
    go_enter Tryz.func27,Tryz.ntmps27
    go_wp2
    go_ret
    rw [HT.out]
    exact ⟨rfl,hal⟩
  rw [there_o (by omega)] at hgt
  have HT:Hid (T=1):=hgt.symm
  have b0:(k == 0)=false:=by simpa using e0
  have b1:(k == 1)=false:=by simpa using e1
  have b2:(k == 2)=false:=by simpa using e2
  have b3:(k == 3)=false:=by simpa using e3
  have b4:(k == 4)=false:=by simpa using e4
  have b5:(k == 5)=false:=by simpa using e5
  have b6:(k == 6)=false:=by simpa using e6
  have b7:(k == 7)=false:=by simpa using e7
  clear hgt e0 e1 e2 e3 e4 e5 e6 e7
  go_enter Tryz.func27,Tryz.ntmps27
  go_wp2
  go_ret
  rw [HT.out]
  exact ⟨rfl,hal⟩
theorem gall_put {G:Nat} {L:GL} {i:Nat} {q:ML} (hq:L.mem[i]?=some q) {a':MA} {x:Nat} (h:x ∈ gall G (L.put i { q with a:=a' })):x ∈ gall G L∨x ∈ foot q.b a':=by
  have hqm:=List.mem_of_getElem? hq
  rcases gall_cases h with rfl | rfl | hx | ⟨r,hr,hx⟩ | ⟨s,hs',hx⟩
  · exact .inl (gall_G _ _)
  · exact .inl (gall_ma _ _)
  · exact .inl (gall_na hx)
  · rcases zAI hr with rfl | hr
    · rcases hx with hx | rfl | hx
      · exact .inr hx
      · exact .inl (show q.v ∈ gall G L from gall_v hqm)
      · exact .inl (show x ∈ gall G L from gall_r (q:=q) hqm hx)
    · rcases hx with hx | rfl | hx
      · exact .inl (zCS hr hx)
      · exact .inl (gall_v hr)
      · exact .inl (gall_r hr hx)
  · exact .inl (show x ∈ gall G L from gall_s (L:=L) hs' hx)
theorem said_sep {w w':World} {G:Nat} {L:GL} {g:Gr} (h:GAt w G L g) {i:Nat} {q:ML} (hq:L.mem[i]?=some q) {a':MA} {B:Nat} (hB:w.heap.size≤B) (hf:∀ x ∈ foot q.b a',x<B) {A:Option Addr} {c:Nat} {ms:List Ms} {sl:List (Option Addr × Nat)} (hms:MsAt w' B A c ms sl) :
    (∀ y ∈ zU A,y ∉ gall G (L.put i { q with a:=a' }))∧(∀ s ∈ sl,∀ y ∈ zU s.1,y ∉ gall G (L.put i { q with a:=a' }))∧∀ s ∈ sl,∀ y ∈ zU s.1,w.heap.size≤y:=by
  have hA:∀ y,B≤y → y ∉ gall G (L.put i { q with a:=a' }):=fun y hy hc=>by
    rcases gall_put hq hc with h1 | h1
    · have:=h.gltAll y h1;omega
    · have:=hf y h1;omega
  have hS:∀ s ∈ sl,∀ y ∈ zU s.1,B≤y:=fun s hs y hy=>by
    obtain ⟨k,hk⟩:=List.getElem?_of_mem hs
    obtain ⟨hk1,hk2⟩:=List.getElem?_eq_some_iff.1 hk
    have:=hms.ents k (by rw [← hms.len];exact hk1)
    rw [List.getD_eq_getElem?_getD,hk] at this
    exact (zAU this y hy).1
  exact ⟨fun y hy=>hA y (zAU hms.own y hy).1,fun s hs y hy=>hA y (hS s hs y hy),fun s hs y hy=>Nat.le_trans hB (hS s hs y hy)⟩
theorem at_idx {g:Gr} {i:Nat} {p:Mb × Vt} (hp:g.ms[i]?=some p):g.at_ ((i:Int)+1)=p:=by
  unfold Gr.at_
  rw [show ((i:Int)+1 - 1).toNat=i by omega,List.getD_eq_getElem?_getD,hp]
  rfl
theorem actsM_eq {g:Gr} {i:Nat} {p:Mb × Vt} (hp:g.ms[i]?=some p) (m:Mb) (said:List Ms):(⟨g.ms.set i (m,p.2),g.net⟩:Gr).actsM i (m,p.2) said=g.acts ((i:Int)+1) m said:=by
  unfold Gr.actsM Gr.acts Gr.anew Gr.set
  rw [at_idx hp,show ((i:Int)+1 - 1).toNat=i by omega]
  simp only [List.set_set,List.length_set]
theorem gtoAll_le (id:Int) (f:Int → Ms) (n:Nat):(Mb.toAll id f n).length≤n:=by
  induction n with
  | zero=>exact Nat.le_refl _
  | succ n ih =>
    rw [Mb.toAll,List.length_append]
    split
    · simp only [List.length_nil];omega
    · simp only [List.length_singleton];omega
theorem gadds_le {m:Mb} (h:MbOk m):m.adds.length≤16:=Nat.le_trans (gtoAll_le _ _ _) h.n16
theorem gasks_le {m:Mb} (h:MbOk m):m.asks.length≤16:=Nat.le_trans (gtoAll_le _ _ _) h.n16
theorem timeout_le {m:Mb} (h:MbOk m):m.timeout.2.length≤16:=by
  have hv:=zBJ h.ballot
  unfold Mb.timeout
  split
  · exact Nat.zero_le _
  · rename_i hn
    have hs:=h.stand (by omega)
    split
    · exact gadds_le (hs.lead (by show 1≤m.term+1;omega))
    · exact gasks_le hs
theorem beat_le {m:Mb} (h:MbOk m):m.beat.2.length≤16:=by
  unfold Mb.beat
  simp only
  split
  · exact gadds_le h
  · exact Nat.zero_le _
theorem propose_le {m:Mb} (h:MbOk m) (c:Cm):(m.propose c).2.2.1.length≤16:=by
  unfold Mb.propose
  split
  · exact Nat.zero_le _
  · split
    · exact Nat.zero_le _
    · rename_i h1 _
      exact gadds_le (h.took (h.live (by omega)) c)
theorem hear_le {m:Mb} (h:MbOk m) (x:Ms):(m.hear x).2.length≤16:=by
  unfold Mb.hear
  split
  rotate_left 1
  · exact Nat.zero_le _
  rename_i hh
  unfold Mb.hears at hh
  rw [decide_eq_true_eq] at hh
  have hs:=h.seen x (by omega)
  have hfr:1≤x.frm∧x.frm≤16:=by have:=h.n16;omega
  generalize m.seen x=s at *
  unfold Mb.acts
  split
  · simp [Mb.asked]
  split
  · unfold Mb.voted
    split
    · exact Nat.zero_le _
    · rename_i hn
      have ht:1≤s.term:=hs.live (by omega)
      split
      · exact gadds_le ((hs.counted x hfr).lead ht)
      · exact Nat.zero_le _
  split
  · unfold Mb.add
    split
    · simp
    split
    · exact Nat.zero_le _
    split <;> simp
  · unfold Mb.added
    split
    · exact Nat.zero_le _
    split
    · simp
    split
    · exact Nat.zero_le _
    split <;> simp
theorem acts_said {w w':World} {G:Nat} {L:GL} {g:Gr} (hgo:GrOk g) (h:GAt w G L g) {i:Nat} {q:ML} {p:Mb × Vt} (hq:L.mem[i]?=some q) (hp:g.ms[i]?=some p) {m':Mb} {a':MA} (hm':InGr g.ms.length m') (hM:MAt w' q.b a' m') (hS:Step w q.b q.a w' a')
    {B:Nat} (hB:w.heap.size≤B) (hf:∀ x ∈ foot q.b a',x<B) {A:Option Addr} {c:Nat} {said:List Ms} {sl:List (Option Addr × Nat)} (hms:MsAt w' B A c said sl) (hsl:said.length≤16) (hnet:g.net.length≤1000000) :
    Calls Tryz.prog 28 #[.pointer (some ⟨G,0,none⟩),.int .i64 ((i:Int)+1),.slice A said.length c] w' fun e w2=>e=.returned (.tuple #[])∧∃ L2,GAt w2 G L2 (g.acts ((i:Int)+1) m' said)∧GStep w G L w2 L2:=by
  have hi:i<g.ms.length:=(List.getElem?_eq_some_iff.1 hp).1
  have hpo:=hgo.pair i p hp
  obtain ⟨h1,S1⟩:=h.step hq hp hM hS
  obtain ⟨s1,s2,s3⟩:=said_sep h hq hB hf hms
  have hmb:MsAt w' 0 A c said sl:=hms.base (Nat.zero_le _)
  have hgk:=(hpo.again hi hgo.n16).1
  have:=acts_any h1 i (p:=(m',p.2)) (by simp [hi]) (by simp only [List.length_set];exact hgo.n16) hm'.mb hm'.wf hpo.vt hpo.le (by simp only [List.length_set];exact hgk) hmb s1 s2 (B0:=w.heap.size) hS.chg.size s3 (by omega) hnet
  rw [actsM_eq hp] at this
  refine this.mono ?_
  rintro e w2 ⟨L2,rfl,h2,hC,hsub⟩
  refine ⟨rfl,L2,h2,S1.chg.trans hC S1.sub,fun x hx => ?_⟩
  rcases hsub x hx with h3 | h3
  · exact S1.sub x h3
  · exact .inr h3
def RetE (r:Gr × Int) (G:Nat) (L:GL) (w:World) (e:Ending) (w2:World):Prop:=e=.returned (.int .i64 r.2)∧∃ L2,GAt w2 G L2 r.1∧GStep w G L w2 L2
set_option maxRecDepth 100000 in
set_option maxHeartbeats 6400000 in
theorem gpropose_any {w : World} {G : Nat} {L : GL} {g : Gr} (hgo : GrOk g) (h : GAt w G L g) (i : Nat) {q : ML} {p : Mb × Vt} (hq : L.mem[i]? = some q) (hp : g.ms[i]? = some p) (a b : Int) (hnet : g.net.length ≤ 1000000) :
    Calls Tryz.prog 32 #[.pointer (some ⟨G,0,none⟩),.int .i64 ((i:Int)+1),.int .i64 a,.int .i64 b] w (RetE (g.propose ((i:Int)+1) a b) G L w):=by
  have HG:=Lib.hid h
  by_cases hbad:min a b<0∨1073741824<max a b
  · have HR:Hid (g.propose ((i:Int)+1) a b=(g,1)):=if_pos hbad
    generalize g.propose ((i:Int)+1) a b=r at *
    by_cases h1:min a b<0
    · clear h hbad
      go_enter Tryz.func32,Tryz.ntmps32
      go_wp2
      go_ret
      rw [HR.out]
      exact ⟨rfl,L,HG.out,GStep.refl _ _ _⟩
    · have h2:1073741824<max a b:=by rcases hbad with h3 | h3;exact (h1 h3).elim;exact h3
      clear h hbad
      go_enter Tryz.func32,Tryz.ntmps32
      go_wp2
      go_ret
      rw [HR.out]
      exact ⟨rfl,L,HG.out,GStep.refl _ _ _⟩
  · have h1:¬ min a b<0:=fun h3=>hbad (.inl h3)
    have h2:¬ 1073741824<max a b:=fun h3=>hbad (.inr h3)
    have hi:i<g.ms.length:=(List.getElem?_eq_some_iff.1 hp).1
    have hpo:=hgo.pair i p hp
    have HOF:=Lib.hid (of_any h i hi hgo.n16)
    obtain ⟨c0,c1,f0,f1,hlt⟩:=h.ptrs hq
    obtain ⟨hM,_⟩:=h.mem i q p hq hp
    have HPR:=Lib.hid (propose_any hM hpo.mb (Gr.cmd a b))
    have HIN:=Lib.hid ((hpo.inGr.propose (a:=a) (b:=b) (by omega) (by omega)).1)
    have HLE:=Lib.hid (propose_le hpo.mb (Gr.cmd a b))
    have HR:Hid (g.propose ((i:Int)+1) a b=if (p.1.propose (Gr.cmd a b)).2.2.2=0 then (g.acts ((i:Int)+1) (p.1.propose (Gr.cmd a b)).1 (p.1.propose (Gr.cmd a b)).2.2.1,0) else (g,(p.1.propose (Gr.cmd a b)).2.2.2)):=by
      rw [Hid]
      unfold Gr.propose
      rw [if_neg hbad,at_idx hp]
    have HKEEP:Hid ((p.1.propose (Gr.cmd a b)).2.2.2≠0 → (p.1.propose (Gr.cmd a b)).1=p.1):=by
      rw [Hid]
      unfold Mb.propose
      split
      · intro _;rfl
      · split
        · intro _;rfl
        · intro h3;exact (h3 rfl).elim
    generalize hpr:p.1.propose (Gr.cmd a b)=pr at *
    obtain ⟨m',n',said,er⟩:=pr
    simp only at HPR HIN HLE HR HKEEP
    generalize g.propose ((i:Int)+1) a b=r at *
    have hsame:Hid (m'=p.1 → (⟨g.ms.set i (m',p.2),g.net⟩:Gr)=g):=fun e=>by
      subst e
      have:g.ms.set i (p.1,p.2)=g.ms:=by
        obtain ⟨h5,h6⟩:=List.getElem?_eq_some_iff.1 hp
        rw [show (p.1,p.2)=p from rfl,← h6,List.set_getElem_self]
      rw [this]
    have HACT:Hid (∀ w' a' B A c sl,MAt w' q.b a' m' → Step w q.b q.a w' a' → w.heap.size≤B → (∀ x ∈ foot q.b a',x<B) → MsAt w' B A c said sl → Calls Tryz.prog 28 #[.pointer (some ⟨G,0,none⟩),.int .i64 ((i:Int)+1),.slice A said.length c] w' fun e w2=>e=.returned (.tuple #[])∧∃ L2,GAt w2 G L2 (g.acts ((i:Int)+1) m' said)∧GStep w G L w2 L2):=fun w' a' B A c sl k1 k2 k3 k4 k5=>acts_said hgo HG.out hq hp HIN.out k1 k2 k3 k4 k5 HLE.out hnet
    clear h hM hbad hpr hpo
    by_cases her:er=0
    · subst her
      rw [if_pos rfl] at HR
      go_enter Tryz.func32,Tryz.ntmps32
      go_wp2_with (first
        | (go_at_call 29;refine HOF.out.mono ?_;rintro e wx ⟨rfl,hwx⟩;subst hwx)
        | (go_at_call 62;refine HPR.out.mono ?_;rintro e w1 ⟨a1,B1,A1,cc1,sl1,rfl,H1,S1,hB1,hF1,hms1⟩;have HA1:=Lib.hid (HACT.out _ _ _ _ _ _ H1 S1 hB1 hF1 hms1))
        | (go_at_call 28;refine HA1.out.mono ?_;rintro e w2 ⟨rfl,L2,h2',S2⟩))
      go_ret
      rw [HR.out]
      exact ⟨rfl,L2,h2',S2⟩
    · rw [if_neg her] at HR
      have hm1:=HKEEP.out her
      have her1:(er == 0)=false:=by simpa using her
      clear her
      go_enter Tryz.func32,Tryz.ntmps32
      go_wp2_with (first
        | (go_at_call 29;refine HOF.out.mono ?_;rintro e wx ⟨rfl,hwx⟩;subst hwx)
        | (go_at_call 62;refine HPR.out.mono ?_;rintro e w1 ⟨a1,B1,A1,cc1,sl1,rfl,H1,S1,hB1,hF1,hms1⟩))
      go_ret
      rw [HR.out]
      obtain ⟨h2',S2⟩:=HG.out.step hq hp H1 S1
      rw [hsame.out hm1] at h2'
      exact ⟨rfl,_,h2',S2⟩
section
variable {Q:Nat → Prop} {w:World} {G:Nat} {L:RL} {g:Gr}
set_option maxRecDepth 100000 in
set_option maxHeartbeats 6400000 in
theorem rgsave_any (h:RGAt Q w G L g) (i:Nat) {r:RM} {p:Mb × Vt} (hr:L.mem[i]?=some r) (hp:g.ms[i]?=some p) (hn:g.ms.length≤16) (hm:MbOk p.1) (hwf:∀ e ∈ p.1.log,EnWf e) (hx:VtOk p.2) (hl:p.2.1.length≤65536) (hQ:∀ x,w.heap.size≤x → Q x) :
    Calls Tryz.prog 79 #[.pointer (some ⟨G,0,none⟩),.int .i64 ((i:Int)+1)] w (RetRG Q ⟨g.ms.set i (p.1,saved p.1 p.2),g.net⟩ G L (.int .i64 (saves p.1 p.2)) w):=by
  have hi:i<g.ms.length:=(List.getElem?_eq_some_iff.1 hp).1
  obtain ⟨hM,hV,hLo⟩:=h.mem i r p hr hp
  have hrm:r ∈ L.mem:=List.mem_of_getElem? hr
  have hlt0:=h.lt
  have HSV:Hid (∀ W,Below w.heap.size w W → Calls Tryz.prog 112 #[.pointer (some ⟨r.v,0,none⟩),zV p.1.term p.1.vote,logV 0 0 r.a.la p.1.log.length r.a.lc] W fun e w'=>e=.returned (.int .i64 (saves p.1 p.2))∧RvAt w' r.v (fun x=>x ∉ rall G L∧Q x) (saved p.1 p.2)∧Only r.v W w'):=fun W hW=>by
    have hVW:=((h.below hW).mem i r p hr hp).2.1
    exact refSave_any r.v _ p.2 p.1.term p.1.vote 0 0 r.a.la r.a.lc p.1.log W hVW (fun hc=>hc.1 (zBZ hrm (rft_v r))) (Nat.lt_of_lt_of_le (hlt0 _ (zBZ hrm (rft_v r))) hW.size) (fun y hy=>⟨fun hc=>by have:=hlt0 y hc;have:=hW.size;omega,hQ y (Nat.le_trans hW.size hy)⟩) (hM.log.below hW) hLo hwf hx hl
  have HG:=Lib.hid h
  obtain ⟨c0,c1,c2,f0,f1,f2,hlt⟩:=h.cells
  obtain ⟨v0,v1,v2⟩:=h.vcell hr
  obtain ⟨m0,m1,m2⟩:=h.mcell hr
  obtain ⟨d0,d1,d2,d3,d4,d5,d6,d7,d8,d9,d10,d11,dlt⟩:=zBA hM.blk
  have hk0:(0:Int)≤(i:Int):=by omega
  have hk1:(i:Int)<(g.ms.length:Int):=by omega
  have hwi:=zS (x:=(i:Int)) (by omega) (by omega)
  clear h hM hV hm hwf hx hl
  go_enter Tryz.func79,Tryz.ntmps79
  go_upto_region 2 with fail
  go_still_tail 16,(by kernel_rfl)
  show wpList _ _ _ _ _ w.drew
  go_wp2_with (go_at_call 112;refine (HSV.out _ (zK w).drew).mono ?_;rintro e w3 ⟨rfl,hv3,hO3⟩)
  go_ret
  obtain ⟨R1,R2⟩:=(HG.out.below (zK w).drew).disk hr hp hO3 hv3
  exact ⟨L,rfl,R1,RGStep.pre (zK w).drew R2⟩
end
section
variable {Q:Nat → Prop} {w:World} {G:Nat} {L:RL} {g:Gr}
set_option maxRecDepth 100000 in
set_option maxHeartbeats 6400000 in
theorem rgacts_any (h:RGAt Q w G L g) (i:Nat) {p:Mb × Vt} (hp:g.ms[i]?=some p) (hn:g.ms.length≤16) (hm:MbOk p.1) (hwf:∀ e ∈ p.1.log,EnWf e) (hx:VtOk p.2) (hl:p.2.1.length≤65536)
    (hok:newOk ((i:Int)+1) g.ms.length p.2.2.2.1 p.2.2.2.2.1 0 0 p.2.2.2.2.2=true) {said:List Ms} {A:Option Addr} {c B:Nat} {sl:List (Option Addr × Nat)} (hms:MsAt w B A c said sl) (hBr:∀ x ∈ rall G L,x<B) (hQ:∀ x,w.heap.size≤x → Q x) (hBQ:∀ x,B≤x → Q x) (hsl:said.length≤100) (hnet:g.net.length≤1000000) :
    Calls Tryz.prog 45 #[.pointer (some ⟨G,0,none⟩),.int .i64 ((i:Int)+1),.slice A said.length c] w (RetRG Q (g.actsM i p said) G L (.tuple #[]) w):=by
  have hi:i<g.ms.length:=(List.getElem?_eq_some_iff.1 hp).1
  obtain ⟨r,hr⟩:=h.rOf hp
  have hrm:r ∈ L.mem:=List.mem_of_getElem? hr
  have HSV:=Lib.hid (rgsave_any h i hr hp hn hm hwf hx hl hQ)
  have hmset:∀ q:Mb × Vt,(g.ms.set i q)[i]?=some q:=fun q=>by rw [List.getElem?_set_self hi]
  have hss:∀ q q':Mb × Vt,(g.ms.set i q).set i q'=g.ms.set i q':=fun q q'=>by simp
  have hll:∀ q:Mb × Vt,(g.ms.set i q).length=g.ms.length:=fun q=>by simp
  by_cases hs:saves p.1 p.2=0
  rotate_left 1
  · have hs1:(saves p.1 p.2 != 0)=true:=by simpa using hs
    have hv:saved p.1 p.2=p.2:=saveV_no hs
    have HE:Hid (g.actsM i p said=⟨g.ms.set i (fresh ((i:Int)+1) g.ms.length p.2,p.2),g.net⟩):=if_neg hs
    rw [hv] at HSV
    generalize saves p.1 p.2=sv at *
    have HNE:Hid (∀ W L1,RGAt Q W G L1 ⟨g.ms.set i (p.1,p.2),g.net⟩ → w.heap.size≤W.heap.size → Calls Tryz.prog 80 #[.pointer (some ⟨G,0,none⟩),.int .i64 ((i:Int)+1)] W (RetRG Q ⟨g.ms.set i (fresh ((i:Int)+1) g.ms.length p.2,p.2),g.net⟩ G L1 (.tuple #[]) W)):=fun W L1 h1 hz=>by
      obtain ⟨r1,hr1⟩:=h1.rOf (hmset (p.1,p.2))
      have:=rganew_any h1 i hr1 (hmset (p.1,p.2)) (by rw [hll];exact hn) (by rw [hll];exact hok) (fun x hx=>hQ x (Nat.le_trans hz hx))
      rw [hll,hss] at this
      exact this
    clear hs hm hwf hx hl hok h
    go_enter Tryz.func45,Tryz.ntmps45
    go_wp2_with (first
      | (go_at_call 79;refine HSV.out.mono ?_;rintro e w1 ⟨L1,rfl,h1,S1⟩;have HN1:=Lib.hid (HNE.out w1 L1 h1 S1.chg.size))
      | (go_at_call 80;refine HN1.out.mono ?_;rintro e w2 ⟨L2,rfl,h2,S2⟩))
    refine bodyPost_end (results_none rfl _ _ _) rfl ?_
    rw [HE.out]
    exact ⟨L2,rfl,h2,S1.trans S2⟩
  · have HE:Hid (g.actsM i p said=⟨g.ms.set i (p.1,syncV (saved p.1 p.2)),g.net ++ said⟩):=if_pos hs
    have hv65:(saved p.1 p.2).1.length≤65536:=saveV_le hl
    rw [hs] at HSV
    have hp1:=hmset (p.1,saved p.1 p.2)
    have hn1:(g.ms.set i (p.1,saved p.1 p.2)).length≤16:=by rw [hll];exact hn
    have hii:=hss (p.1,saved p.1 p.2) (p.1,syncV (saved p.1 p.2))
    have hi1:i<(g.ms.set i (p.1,saved p.1 p.2)).length:=by rw [hll];exact hi
    have HMS:=Lib.hid hms
    clear hs hm hwf hx hl hok hms hss hll hmset
    generalize saved p.1 p.2=x1 at *
    generalize hg1:g.ms.set i (p.1,x1)=ms1 at *
    have HSY:Hid (∀ W L1 r1,RGAt Q W G L1 ⟨ms1,g.net⟩ → L1.mem[i]?=some r1 → Calls Tryz.prog 81 #[.pointer (some ⟨r1.v,0,none⟩)] W fun e w'=>e=.returned (.tuple #[])∧RvAt w' r1.v (fun x=>x ∉ rall G L1∧Q x) (syncV x1)∧Only r1.v W w'):=fun W L1 r1 h1 hr1=>refSync_any r1.v _ x1 W (h1.mem i r1 _ hr1 hp1).2.1 (fun hc=>hc.1 (zBZ (List.mem_of_getElem? hr1) (rft_v r1))) (by omega)
    have hk0:(0:Int)≤(i:Int):=by omega
    have hk1:(i:Int)<(ms1.length:Int):=by omega
    have hwi:=zS (x:=(i:Int)) (by omega) (by omega)
    go_enter Tryz.func45,Tryz.ntmps45
    go_upto_region 3 with (first
      | (go_at_call 79;refine HSV.out.mono ?_;rintro e w1 ⟨L1,rfl,h1,S1⟩;obtain ⟨r1,hr1⟩:=h1.rOf hp1;obtain ⟨c0,c1,c2,f0,f1,f2,hlt⟩:=h1.cells;obtain ⟨v0,v1,v2⟩:=h1.vcell hr1;have HY1:=Lib.hid (HSY.out _ _ _ h1 hr1))
      | (go_at_call 81;refine HY1.out.mono ?_;rintro e w2 ⟨rfl,hv2,hO2⟩))
    obtain ⟨h2,S2⟩:=h1.disk hr1 hp1 hO2 hv2
    have S3:=S1.trans S2
    rw [hii] at h2
    have hAr:∀ x,B≤x → x<w.heap.size → x ∉ rall G L:=fun x hx hlt hc=>by have:=hBr x hc;omega
    have hA1:∀ y ∈ zU A,y ∉ rall G L:=fun y hy=>hAr y (zAU HMS.out.own y hy).1 (zAU HMS.out.own y hy).2
    have hS1:∀ s ∈ sl,∀ y ∈ zU s.1,B≤y∧y<w.heap.size:=fun s hs y hy=>by
      obtain ⟨k,hk⟩:=List.getElem?_of_mem hs
      obtain ⟨hk1,hk2⟩:=List.getElem?_eq_some_iff.1 hk
      have:=HMS.out.ents k (by rw [← HMS.out.len];exact hk1)
      rw [List.getD_eq_getElem?_getD,hk] at this
      exact zAU this y hy
    have M2:=HMS.out.chg S3.chg hA1 (fun s hs y hy=>hAr y (hS1 s hs y hy).1 (hS1 s hs y hy).2)
    clear c0 c1 c2 f0 f1 f2 hlt v0 v1 v2
    obtain ⟨c0,c1,c2,f0,f1,f2,hlt⟩:=h2.cells
    have hnlen:(g.net.length+said.length)≤1000100:=by omega
    have hGna:=h2.tops.2.2.2.1
    have hA0:A=none → said.length=0:=fun e=>by
      rcases M2.own.2 with ⟨_,h0⟩ | ⟨b,cap,cur,hv,_⟩
      · exact h0
      · rw [e] at hv;cases hv
    have HM2:=Lib.hid M2
    have HH2:=Lib.hid h2
    have hr2:=RowAt.of_own M2.own
    have ho2:=h2.net
    clear M2 h2
    simp only at ho2
    go_wp2_with (at_builtin;refine zF rfl (.tmp 26) (.tmp 27) rfl elemM 0 (.slice L1.na g.net.length L1.nc) g.net.length (msV g.net L1.sl) (by rfl) ho2 A said.length c (msV said sl) (by rfl) (msV_length _ _) hr2 (msV_one _ _) (by unfold maxLen;omega) (by omega) (Nat.zero_le _) hA0 ?_;intro a3 c3 w3 own3 hg3 hat3;have G3:=zY hg3 HH2.out.blk (fun e=>hGna (zAT e));obtain ⟨k0,k1,k2,kf0,kf1,kf2,klt⟩:=box3 G3)
    refine bodyPost_end (results_none rfl _ _ _) rfl ?_
    have hsl1:L1.sl.length=g.net.length:=HH2.out.slen
    have hC:Chg (zU L1.na) w2 w3:=(Chg.refl _ _).grown hg3 (fun b hb=>.inl (zAT hb))
    have hlen:(g.net ++ said).length=g.net.length+said.length:=List.length_append
    have hrs:∀ x,B≤x → x<w.heap.size → x ∉ rall G L1:=fun x hx hlt hc=>by
      rcases S1.sub x hc with h1 | h1
      · exact hAr x hx hlt h1
      · omega
    have own4:w3.ownsRow 0 78 9 (.slice a3 (g.net ++ said).length c3) (g.net ++ said).length (msV (g.net ++ said) (L1.sl ++ sl)):=by
      rw [hlen,msV_append HH2.out.slen]
      exact own3
    obtain ⟨R1,R2⟩:=HH2.out.netTo (l:=g.net ++ said) (sl:=L1.sl ++ sl) hC own4 (by simp [HH2.out.slen,HM2.out.len]) (fun k hk=>by
      by_cases hkn:k<g.net.length
      · have e1:(g.net ++ said)[k]=g.net[k]:=List.getElem_append_left hkn
        have e2:(L1.sl ++ sl).getD k (none,0)=L1.sl.getD k (none,0):=by rw [List.getD_eq_getElem?_getD,List.getD_eq_getElem?_getD,List.getElem?_append_left (by rw [hsl1];exact hkn)]
        obtain ⟨q1,q2⟩:=HH2.out.ents k hkn
        simp only at q1 q2
        rw [e1,e2]
        exact ⟨q1.chgO hC (q2.mono fun x hx hc=>hx.1 (rall_na hc)),fun hn b o e=>.inl ⟨(q2 hn b o e).1,(q2 hn b o e).2,q1.ltO hn b o e⟩⟩
      · have hj2:k - g.net.length<said.length:=by rw [hlen] at hk;omega
        have e1:(g.net ++ said)[k]=said[k - g.net.length]:=List.getElem_append_right (by omega)
        have e2:(L1.sl ++ sl).getD k (none,0)=sl.getD (k - g.net.length) (none,0):=by rw [List.getD_eq_getElem?_getD,List.getD_eq_getElem?_getD,List.getElem?_append_right (by rw [hsl1];omega),hsl1]
        have q1:=HM2.out.ents _ hj2
        have q0:=HMS.out.ents _ hj2
        rw [e1,e2]
        have q3:=zAL q1 hC fun x hx hc=>by
          obtain ⟨cs,hk1⟩:=zBE q1 x hx
          obtain ⟨ds,hk2⟩:=zBE HH2.out.net x hc
          exact zCA hk1 hk2 (by decide) rfl
        refine ⟨LogIn.of_own q3,fun hn b o e=>.inl ?_⟩
        have hb:=zAU q0 b (by rw [e];simp [zU])
        exact ⟨hrs b hb.1 hb.2,hBQ b hb.1,(zAU q1 b (by rw [e];simp [zU])).2⟩) (fun x hx=>by
      rcases hat3 with h1 | h1
      · have:=mem_ownBlock (n:=g.net.length+said.length) (c:=c3) hx
        rw [h1] at this
        exact .inl (zAT this)
      · have:=mem_ownBlock (n:=g.net.length+said.length) (c:=c3) hx
        rw [h1] at this
        injection this with this
        exact .inr (by omega)) (fun x hx=>hQ x (Nat.le_trans S3.chg.size hx))
    rw [hlen] at R1 R2
    rw [HE.out]
    exact ⟨_,rfl,R1,S3.trans R2⟩
end
section
variable {Q:Nat → Prop} {w:World} {G:Nat} {L:RL} {g:Gr}
set_option maxRecDepth 100000 in
set_option maxHeartbeats 6400000 in
theorem rgcrash_any (h:RGAt Q w G L g) (i:Nat) {p:Mb × Vt} (hp:g.ms[i]?=some p) (hn:g.ms.length≤16) (hx:VtOk p.2) (hl:p.2.1.length≤65536) (keep:Int)
    (hok:newOk ((i:Int)+1) g.ms.length (zAD p.2 keep).2.2.1 (zAD p.2 keep).2.2.2.1 0 0 (zAD p.2 keep).2.2.2.2=true) (hQ:∀ x,w.heap.size≤x → Q x) :
    Calls Tryz.prog 50 #[.pointer (some ⟨G,0,none⟩),.int .i64 ((i:Int)+1),.int .i64 keep] w (RetRG Q ⟨g.ms.set i (fresh ((i:Int)+1) g.ms.length (zAD p.2 keep),zAD p.2 keep),g.net⟩ G L (.tuple #[]) w):=by
  have hi:i<g.ms.length:=(List.getElem?_eq_some_iff.1 hp).1
  obtain ⟨r,hr⟩:=h.rOf hp
  have hrm:r ∈ L.mem:=List.mem_of_getElem? hr
  have hlt0:=h.lt
  have hmset:∀ q:Mb × Vt,(g.ms.set i q)[i]?=some q:=fun q=>by rw [List.getElem?_set_self hi]
  have hss:∀ q q':Mb × Vt,(g.ms.set i q).set i q'=g.ms.set i q':=fun q q'=>by simp
  have hll:∀ q:Mb × Vt,(g.ms.set i q).length=g.ms.length:=fun q=>by simp
  have HCR:Hid (Calls Tryz.prog 89 #[.pointer (some ⟨r.v,0,none⟩),.int .i64 keep] w fun e w'=>e=.returned (.tuple #[])∧RvAt w' r.v (fun x=>x ∉ rall G L∧Q x) (zAD p.2 keep)∧Only r.v w w') :=
    refCrash_any r.v _ p.2 keep w (h.mem i r p hr hp).2.1 (fun hc=>hc.1 (zBZ hrm (rft_v r))) (hlt0 _ (zBZ hrm (rft_v r))) (fun y hy=>⟨fun hc=>by have:=hlt0 y hc;omega,hQ y hy⟩) hx (by omega)
  have HNE:Hid (∀ W L1,RGAt Q W G L1 ⟨g.ms.set i (p.1,zAD p.2 keep),g.net⟩ → w.heap.size≤W.heap.size → Calls Tryz.prog 80 #[.pointer (some ⟨G,0,none⟩),.int .i64 ((i:Int)+1)] W (RetRG Q ⟨g.ms.set i (fresh ((i:Int)+1) g.ms.length (zAD p.2 keep),zAD p.2 keep),g.net⟩ G L1 (.tuple #[]) W)):=fun W L1 h1 hz=>by
    obtain ⟨r1,hr1⟩:=h1.rOf (hmset (p.1,zAD p.2 keep))
    have:=rganew_any h1 i hr1 (hmset (p.1,zAD p.2 keep)) (by rw [hll];exact hn) (by rw [hll];exact hok) (fun x hx=>hQ x (Nat.le_trans hz hx))
    rw [hll,hss] at this
    exact this
  have HG:=Lib.hid h
  obtain ⟨c0,c1,c2,f0,f1,f2,hlt⟩:=h.cells
  obtain ⟨v0,v1,v2⟩:=h.vcell hr
  have hk0:(0:Int)≤(i:Int):=by omega
  have hk1:(i:Int)<(g.ms.length:Int):=by omega
  have hwi:=zS (x:=(i:Int)) (by omega) (by omega)
  clear h hx hl hok hmset hss hll
  generalize zAD p.2 keep=x1 at *
  go_enter Tryz.func50,Tryz.ntmps50
  go_wp2_with (first
    | (go_at_call 89;refine HCR.out.mono ?_;rintro e w1 ⟨rfl,hv1,hO1⟩;obtain ⟨h1,S1⟩:=HG.out.disk hr hp hO1 hv1;have HN1:=Lib.hid (HNE.out w1 L h1 S1.chg.size))
    | (go_at_call 80;refine HN1.out.mono ?_;rintro e w2 ⟨L2,rfl,h2,S2⟩))
  refine bodyPost_end (results_none rfl _ _ _) rfl ?_
  exact ⟨L2,rfl,h2,S1.trans S2⟩
end
theorem Chg.set9R {S:List Nat} {a w:World} (h:Chg S a w) {b:Nat} (hb:b ∈ S∨a.heap.size≤b) (x0 x1 x2 x3 x4 x5 x6 x7 x8:Value):Chg S a (set9 w b x0 x1 x2 x3 x4 x5 x6 x7 x8) :=
  ((((((((h.setCell hb 0 x0).setCell hb 1 x1).setCell hb 2 x2).setCell hb 3 x3).setCell hb 4 x4).setCell hb 5 x5).setCell hb 6 x6).setCell hb 7 x7).setCell hb 8 x8
section
variable {Q:Nat → Prop} {w:World} {G:Nat} {L:RL} {g:Gr}
set_option maxRecDepth 100000 in
set_option maxHeartbeats 6400000 in
theorem rgtake_any (h:RGAt Q w G L g) (k:Nat) {x:Ms} {s:Option Addr × Nat} (hx:g.net[k]?=some x) (hs:L.sl[k]?=some s) (hnet:g.net.length≤1000000) (hQ:∀ x,w.heap.size≤x → Q x) :
    Calls Tryz.prog 48 #[.pointer (some ⟨G,0,none⟩),.int .i64 (k:Int)] w (fun e w'=>e=.returned (x.val s.1 s.2)∧∃ L',RGAt Q w' G L' (g.take k)∧RGStep w G L w' L'∧L'.mem=L.mem):=by
  obtain ⟨hk,_⟩:=List.getElem?_eq_some_iff.1 hx
  have hsl:=h.slen
  obtain ⟨nb,off,hna,nlt,n0,n1,n2,n3,n4,n5,n6,n7,n8⟩:=msg_nine (RowAt.of_own h.net) hx hs
  obtain ⟨nb',hna'⟩:=own_some h.net (by omega)
  have hoff:off=0∧nb=nb':=by
    rw [hna] at hna'
    injection hna' with e
    injection e with e1 e2
    exact ⟨e2,e1⟩
  obtain ⟨rfl,rfl⟩:=hoff
  simp only [Nat.zero_add] at n0 n1 n2 n3 n4 n5 n6 n7 n8
  obtain ⟨c0,c1,c2,f0,f1,f2,hlt⟩:=h.cells
  have hcap:g.net.length≤L.nc:=by
    rcases h.net.2 with ⟨h2,h0⟩ | ⟨b',cap,cur,hv,_,_,hc,_⟩
    · omega
    · injection hv with _ _ h3;omega
  have hrow:=RowAt.of_own h.net
  rw [hna] at c2 hrow
  have hne1:w.heap.size+1≠G:=by omega
  have hne0:w.heap.size≠G:=by omega
  have HS1:Hid (∀ Z,(Instr.slice 50 (.slice (some ⟨nb,0,none⟩) g.net.length L.nc) none (some (.int .i64 (k:Int))) none).run Tryz.prog Z=.ok (.slice (some ⟨nb,0,none⟩) k L.nc) Z):=fun Z=>zCN elemM _ _ _ k (by omega) Z
  have HS2:Hid (∀ Z,(Instr.slice 50 (.slice (some ⟨nb,0,none⟩) g.net.length L.nc) (some (.int .i64 ((k:Int)+1))) none none).run Tryz.prog Z=.ok (.slice (cutS (some ⟨nb,0,none⟩) L.nc (k+1) 9) (g.net.length - (k+1)) (L.nc - (k+1))) Z):=fun Z=>by
    have:=slice_fromS elemM (some ⟨nb,0,none⟩) g.net.length L.nc (k+1) (by omega) Z
    rwa [Int.natCast_add] at this
  have HG:=Lib.hid h
  have HR:=Lib.hid hrow
  have HMT:=Lib.hid (msV_take k g.net L.sl hsl)
  have hk0:(0:Int)≤(k:Int):=by omega
  have hk1:(k:Int)<(g.net.length:Int):=by omega
  have hwk:=zS (x:=(k:Int)+1) (by omega) (by omega)
  have htl:((msV g.net L.sl).take (k * 9)).length=k * 9:=by rw [List.length_take,msV_length];omega
  have hdl:((msV g.net L.sl).drop ((k+1) * 9)).length=(g.net.length - (k+1)) * 9:=by rw [List.length_drop,msV_length];omega
  have HTL:=Lib.hid htl
  have hcp:(msV g.net L.sl).length≤L.nc * 9:=by rw [msV_length];omega
  have HCP:=Lib.hid hcp
  clear hcp
  have HDL:=Lib.hid hdl
  have h1t:∀ u ∈ (msV g.net L.sl).take (k * 9),u.oneCell'=true:=fun u hu=>msV_one _ _ u (List.mem_of_mem_take hu)
  have h1d:∀ u ∈ (msV g.net L.sl).drop ((k+1) * 9),u.oneCell'=true:=fun u hu=>msV_one _ _ u (List.mem_of_mem_drop hu)
  have HOT:=Lib.hid h1t
  have HOD:=Lib.hid h1d
  clear h1t h1d htl hdl hrow h hcap
  obtain ⟨xk,xf,xd,xt,xi,xl,xc,xy,xe⟩:=x
  obtain ⟨s1,s2⟩:=s
  simp only at n0 n1 n2 n3 n4 n5 n6 n7 n8
  have hal:=zAE w (.cells #[.int .i64 0,.int .i64 0,.int .i64 0,.int .i64 0,.int .i64 0,.int .i64 0,.int .i64 0,.bool false,.slice none 0 0] 78) (.cells #[.int .i64 xk,.int .i64 xf,.int .i64 xd,.int .i64 xt,.int .i64 xi,.int .i64 xl,.int .i64 xc,.bool xy,.slice s1 xe.length s2] 78)
  have g0:=zT w (.cells #[.int .i64 0,.int .i64 0,.int .i64 0,.int .i64 0,.int .i64 0,.int .i64 0,.int .i64 0,.bool false,.slice none 0 0] 78) (.cells #[.int .i64 xk,.int .i64 xf,.int .i64 xd,.int .i64 xt,.int .i64 xi,.int .i64 xl,.int .i64 xc,.bool xy,.slice s1 xe.length s2] 78)
  have g1:=zR w (.cells #[.int .i64 0,.int .i64 0,.int .i64 0,.int .i64 0,.int .i64 0,.int .i64 0,.int .i64 0,.bool false,.slice none 0 0] 78) (.cells #[.int .i64 xk,.int .i64 xf,.int .i64 xd,.int .i64 xt,.int .i64 xi,.int .i64 xl,.int .i64 xc,.bool xy,.slice s1 xe.length s2] 78)
  have hz2:((w.alloc (.cells #[.int .i64 0,.int .i64 0,.int .i64 0,.int .i64 0,.int .i64 0,.int .i64 0,.int .i64 0,.bool false,.slice none 0 0] 78)).alloc (.cells #[.int .i64 xk,.int .i64 xf,.int .i64 xd,.int .i64 xt,.int .i64 xi,.int .i64 xl,.int .i64 xc,.bool xy,.slice s1 xe.length s2] 78)).heap.size=w.heap.size+2:=by simp
  go_enter Tryz.func48,Tryz.ntmps48
  go_upto_region 2 with fail
  have gG:=zA hal HG.out.blk
  have halA:=zC (w.alloc (.cells #[.int .i64 0,.int .i64 0,.int .i64 0,.int .i64 0,.int .i64 0,.int .i64 0,.int .i64 0,.bool false,.slice none 0 0] 78)) (.cells #[.int .i64 xk,.int .i64 xf,.int .i64 xd,.int .i64 xt,.int .i64 xi,.int .i64 xl,.int .i64 xc,.bool xy,.slice s1 xe.length s2] 78)
  have HRb:=fun (W:World) (hb:Below w.heap.size w W)=>HR.out.below hb
  clear c0 c1 c2 f0 f1 f2 hlt n0 n1 n2 n3 n4 n5 n6 n7 n8 nlt
  generalize (w.alloc (.cells #[.int .i64 0,.int .i64 0,.int .i64 0,.int .i64 0,.int .i64 0,.int .i64 0,.int .i64 0,.bool false,.slice none 0 0] 78)).alloc (.cells #[.int .i64 xk,.int .i64 xf,.int .i64 xd,.int .i64 xt,.int .i64 xi,.int .i64 xl,.int .i64 xc,.bool xy,.slice s1 xe.length s2] 78)=W2 at *
  simp only [rgC,hna] at gG
  obtain ⟨c0,c1,c2,f0,f1,f2,hlt⟩:=box3 gG
  have hs1:=HS1.out
  have hs2:=HS2.out
  go_wp2_with (first
    | (at_builtin;refine zF rfl (.const (.slice none 0 0)) (.tmp 19) rfl elemM W2.heap.size (.slice none 0 0) 0 [] (by rfl) (World.ownsRow_nil _ _ _ _) (some ⟨nb,0,none⟩) k L.nc ((msV g.net L.sl).take (k * 9)) (by rfl) HTL.out ((HR.out.below hal).take _) HOT.out (by unfold maxLen;omega) (by omega) (Nat.le_refl _) (fun h=>by cases h) ?_;intro a3 c3 w3 own3 hg3 hat3;simp only [Nat.zero_add,List.nil_append] at own3;have hb3:Below W2.heap.size W2 w3:=(zK _).grown hg3 (Nat.le_refl _) (fun k hk=>by simp [Value.ownBlock] at hk);have hw3:=hal.trans (hb3.mono hal.size);have gG3:=zA hb3 gG;obtain ⟨d0,d1,d2,df0,df1,df2,dlt⟩:=box3 gG3;have gX3:=zA hb3 g1;have gZ3:=zA hb3 g0)
    | (at_builtin;refine zF rfl (.tmp 21) (.tmp 28) rfl elemM W2.heap.size (.slice a3 k c3) k ((msV g.net L.sl).take (k * 9)) (by rfl) own3 (cutS (some ⟨nb,0,none⟩) L.nc (k+1) 9) (g.net.length - (k+1)) (L.nc - (k+1)) ((msV g.net L.sl).drop ((k+1) * 9)) (by rfl) HDL.out (RowAt.cutS (HR.out.below hw3) L.nc (k+1) 9 HCP.out) HOD.out (by unfold maxLen;omega) (by omega) hb3.size (cutS_none (n:=g.net.length) (fun h=>by cases h)) ?_;intro a4 c4 w4 own4 hg4 hat4;have hb4:=Below.appended hb3 own3 hg4 hb3.size (Nat.le_refl _);have gG4:=zA hb4 gG;have gX4:=zA hb4 g1;have gZ4:=zA hb4 g0;obtain ⟨e0,e1,e2,ef0,ef1,ef2,elt⟩:=box3 gG4;have gX5:=zL (i:=2) gX4 hne1 (.slice a4 (k+(g.net.length - (k+1))) c4);have gZ5:=zL (i:=2) gZ4 hne0 (.slice a4 (k+(g.net.length - (k+1))) c4);obtain ⟨x0,x1,x2,x3,x4,x5,x6,x7,x8⟩:=box9 gX5;obtain ⟨z0,z1,z2,z3,z4,z5,z6,z7,z8⟩:=box9 gZ5;obtain ⟨fz0,fz1,fz2,fz3,fz4,fz5,fz6,fz7,fz8,_⟩:=fro9 gZ5;have xlt:=zB gX5;have zlt:=zB gZ5))
  obtain ⟨q0,q1,q2,q3,q4,q5,q6,q7,q8⟩:=box9 (set9_blk gZ5 (.int .i64 xk) (.int .i64 xf) (.int .i64 xd) (.int .i64 xt) (.int .i64 xi) (.int .i64 xl) (.int .i64 xc) (.bool xy) (.slice s1 xe.length s2))
  refine bodyPost_ret (v:=.agg #[.int .i64 xk,.int .i64 xf,.int .i64 xd,.int .i64 xt,.int .i64 xi,.int .i64 xl,.int .i64 xc,.bool xy,.slice s1 xe.length s2]) (by simp [results,Tryz.results48,go_sem,q0,q1,q2,q3,q4,q5,q6,q7,q8]) rfl ?_
  refine ⟨rfl,?_⟩
  have hlen:(g.net.eraseIdx k).length=k+(g.net.length - (k+1)):=by rw [List.length_eraseIdx,if_pos (by omega)];omega
  have hA:=zC w (.cells #[.int .i64 0,.int .i64 0,.int .i64 0,.int .i64 0,.int .i64 0,.int .i64 0,.int .i64 0,.bool false,.slice none 0 0] 78)
  have hzA:(w.alloc (.cells #[.int .i64 0,.int .i64 0,.int .i64 0,.int .i64 0,.int .i64 0,.int .i64 0,.int .i64 0,.bool false,.slice none 0 0] 78)).heap.size=w.heap.size+1:=by simp
  have hQ1:∀ x,(w.alloc (.cells #[.int .i64 0,.int .i64 0,.int .i64 0,.int .i64 0,.int .i64 0,.int .i64 0,.int .i64 0,.bool false,.slice none 0 0] 78)).heap.size≤x → Q x∧x≠w.heap.size:=fun x hx=>⟨hQ x (by omega),by omega⟩
  have HGA:RGAt (fun x=>Q x∧x≠w.heap.size) (w.alloc (.cells #[.int .i64 0,.int .i64 0,.int .i64 0,.int .i64 0,.int .i64 0,.int .i64 0,.int .i64 0,.bool false,.slice none 0 0] 78)) G L g:=(HG.out.mono fun x hx hq=>⟨hq,by omega⟩).below hA
  have own5:w4.ownsRow 0 78 9 (.slice a4 (g.net.eraseIdx k).length c4) (g.net.eraseIdx k).length (msV (g.net.eraseIdx k) (L.sl.eraseIdx k)):=by
    have e:(msV g.net L.sl).take (k * 9) ++ (msV g.net L.sl).drop ((k+1) * 9)=msV (g.net.eraseIdx k) (L.sl.eraseIdx k):=by
      rw [HMT.out,msV_drop (k+1) g.net L.sl hsl,List.eraseIdx_eq_take_drop_succ,List.eraseIdx_eq_take_drop_succ,msV_append (by simp [hsl])]
    rw [hlen,← e]
    exact zW own4 (Nat.zero_le _)
  have hbA4:Below (w.alloc (.cells #[.int .i64 0,.int .i64 0,.int .i64 0,.int .i64 0,.int .i64 0,.int .i64 0,.int .i64 0,.bool false,.slice none 0 0] 78)).heap.size (w.alloc (.cells #[.int .i64 0,.int .i64 0,.int .i64 0,.int .i64 0,.int .i64 0,.int .i64 0,.int .i64 0,.bool false,.slice none 0 0] 78)) w4:=halA.trans (hb4.mono halA.size)
  obtain ⟨R1,R2⟩:=HGA.netTo (w1:=w4) (l:=g.net.eraseIdx k) (sl:=L.sl.eraseIdx k) (na:=a4) (nc:=c4) (Chg.of_below hbA4) own5 (by rw [List.length_eraseIdx,List.length_eraseIdx,hsl]) (fun j hj=>by
    have hje:j<g.net.length - 1:=by rw [List.length_eraseIdx,if_pos (by omega)] at hj;exact hj
    obtain ⟨j',hj',e0⟩:∃ j':Nat,j'<g.net.length∧j'=(if j<k then j else j+1):=⟨if j<k then j else j+1,by split <;> omega,rfl⟩
    have e1:(g.net.eraseIdx k)[j]=g.net[j']:=by
      rw [List.getElem_eraseIdx]
      split
      · rename_i hlt;simp only [e0,if_pos hlt]
      · rename_i hlt;simp only [e0,if_neg hlt]
    have e2:(L.sl.eraseIdx k).getD j (none,0)=L.sl.getD j' (none,0):=by
      rw [List.getD_eq_getElem?_getD,List.getD_eq_getElem?_getD,List.getElem?_eraseIdx]
      split
      · rename_i hlt;rw [e0,if_pos hlt]
      · rename_i hlt;rw [e0,if_neg hlt]
    obtain ⟨q1,q2⟩:=HGA.ents j' hj'
    rw [e1,e2]
    exact ⟨q1.below hbA4,fun hn b o e=>.inl ⟨(q2 hn b o e).1,(q2 hn b o e).2,q1.ltO hn b o e⟩⟩) (fun x hx=>.inr (by have:=(zAU own4 x hx).1;omega)) hQ1
  rw [hlen] at R1 R2
  refine ⟨{ L with na:=a4,nc:=c4,sl:=L.sl.eraseIdx k },?_,?_,rfl⟩
  · have R3:=R1.chgO (S:=[w.heap.size]) ((Chg.refl _ _).set9R (b:=w.heap.size) (.inl (by simp)) (.int .i64 xk) (.int .i64 xf) (.int .i64 xd) (.int .i64 xt) (.int .i64 xi) (.int .i64 xl) (.int .i64 xc) (.bool xy) (.slice s1 xe.length s2)) (fun x hx hq hc=>hq.2 (by simpa using hc))
    exact R3.mono fun x _ hq=>hq.1
  · have hC:=((Chg.of_below hA).trans (S:=rall G L) (T:=rall G L) R2.chg fun x hx=>.inl hx)
    exact ⟨hC.set9R (b:=w.heap.size) (.inr (Nat.le_refl _)) _ _ _ _ _ _ _ _ _,fun x hx=>(R2.sub x hx).imp id fun q=>by omega⟩
end
end Go.Proofs.YtnljdkglncmfaaaGreat
