/-
  Part Bx of the proof.
-/
import Derived.Shelf.Sort.Plain
import Derived.Sort.OwnSortedInts
import Derived.Test.YtnljdkglncmfaaaGreatProg
import Derived.Test.YtnljdkglncmfaaaGreatBa
import Derived.Test.YtnljdkglncmfaaaGreatBc
namespace Go.Proofs.YtnljdkglncmfaaaGreat
open Go.Shelf Go.Sort Go.RowKit
def sortLays_ren:Go.Shelf.Ren:=⟨fun | 189=>153 | 125=>140 | 257=>164 | 128=>154 | 129=>155 | 294=>171 | 295=>172 | 296=>173 | 297=>174 | 298=>175 | 299=>176 | 216=>177 | 300=>178 | 301=>179 | 328=>182 | 329=>183 | 330=>184 | 331=>185 | 332=>186 | 215=>187 | 343=>189 | n=>n,fun | 28=>28 | 3=>3 | 46=>167 | 0=>0 | 51=>179 | 53=>181 | 4=>4 | 183=>197 | 182=>196 | 131=>127 | 5=>5 | 9=>9 | 218=>206 | 222=>210 | 228=>213 | 229=>109 | n=>n,fun | n=>n⟩
theorem sortLays:Go.Proofs.Lays.n189 Tryz.prog sortLays_ren:={
  mixed:=by kernel_rfl
  f125:=Tryz.func140.trans (congrArg some (by kernel_rfl))
  f128:=Tryz.func154.trans (congrArg some (by kernel_rfl))
  f129:=Tryz.func155.trans (congrArg some (by kernel_rfl))
  f189:=Tryz.func153.trans (congrArg some (by kernel_rfl))
  f215:=Tryz.func187.trans (congrArg some (by kernel_rfl))
  f216:=Tryz.func177.trans (congrArg some (by kernel_rfl))
  f257:=Tryz.func164.trans (congrArg some (by kernel_rfl))
  f294:=Tryz.func171.trans (congrArg some (by kernel_rfl))
  f295:=Tryz.func172.trans (congrArg some (by kernel_rfl))
  f296:=Tryz.func173.trans (congrArg some (by kernel_rfl))
  f297:=Tryz.func174.trans (congrArg some (by kernel_rfl))
  f298:=Tryz.func175.trans (congrArg some (by kernel_rfl))
  f299:=Tryz.func176.trans (congrArg some (by kernel_rfl))
  f300:=Tryz.func178.trans (congrArg some (by kernel_rfl))
  f301:=Tryz.func179.trans (congrArg some (by kernel_rfl))
  f328:=Tryz.func182.trans (congrArg some (by kernel_rfl))
  f329:=Tryz.func183.trans (congrArg some (by kernel_rfl))
  f330:=Tryz.func184.trans (congrArg some (by kernel_rfl))
  f331:=Tryz.func185.trans (congrArg some (by kernel_rfl))
  f332:=Tryz.func186.trans (congrArg some (by kernel_rfl))
  f343:=Tryz.func189.trans (congrArg some (by kernel_rfl))
  t0:=Tryz.underlying0
  a0:=Tryz.isAgg0
  z0:=Tryz.sizeOf0
  v0:=Tryz.zeroValue0
  t3:=Tryz.underlying3
  a3:=Tryz.isAgg3
  z3:=Tryz.sizeOf3
  v3:=Tryz.zeroValue3
  t4:=Tryz.underlying4
  a4:=Tryz.isAgg4
  z4:=Tryz.sizeOf4
  v4:=Tryz.zeroValue4
  t5:=Tryz.underlying5
  a5:=Tryz.isAgg5
  z5:=Tryz.sizeOf5
  v5:=Tryz.zeroValue5
  t9:=Tryz.underlying9
  a9:=Tryz.isAgg9
  z9:=Tryz.sizeOf9
  v9:=Tryz.zeroValue9
  t28:=Tryz.underlying28
  a28:=Tryz.isAgg28
  z28:=Tryz.sizeOf28
  v28:=Tryz.zeroValue28
  t46:=Tryz.underlying167
  a46:=Tryz.isAgg167
  z46:=Tryz.sizeOf167
  v46:=Tryz.zeroValue167
  t51:=Tryz.underlying179
  a51:=Tryz.isAgg179
  z51:=Tryz.sizeOf179
  v51:=Tryz.zeroValue179
  t53:=Tryz.underlying181
  a53:=Tryz.isAgg181
  z53:=Tryz.sizeOf181
  v53:=Tryz.zeroValue181
  t131:=Tryz.underlying127
  a131:=Tryz.isAgg127
  z131:=Tryz.sizeOf127
  v131:=Tryz.zeroValue127
  t182:=Tryz.underlying196
  a182:=Tryz.isAgg196
  z182:=Tryz.sizeOf196
  v182:=Tryz.zeroValue196
  t183:=Tryz.underlying197
  a183:=Tryz.isAgg197
  z183:=Tryz.sizeOf197
  v183:=Tryz.zeroValue197
  t218:=Tryz.underlying206
  a218:=Tryz.isAgg206
  z218:=Tryz.sizeOf206
  v218:=Tryz.zeroValue206
  t222:=Tryz.underlying210
  a222:=Tryz.isAgg210
  z222:=Tryz.sizeOf210
  v222:=Tryz.zeroValue210
  t228:=Tryz.underlying213
  a228:=Tryz.isAgg213
  z228:=Tryz.sizeOf213
  v228:=Tryz.zeroValue213
  t229:=Tryz.underlying109
  a229:=Tryz.isAgg109
  z229:=Tryz.sizeOf109
  v229:=Tryz.zeroValue109 }
theorem sort_any (blk off cap:Nat) (zs:List Int) (w:World) (hH:Go.Sort.Holds (Value.int .i64) w blk off zs.toArray) (hblk:blk<w.heap.size) (hsz:zs.length<4611686018427387904) :
    Calls Tryz.prog 153 #[.slice (some ⟨blk,off,none⟩) zs.length cap] w fun e w' =>
      e=.returned (.tuple #[])∧∃ n os,w'=grow (putRow (Value.int .i64) (Sort.ahead w n) blk off (zs.mergeSort fun x y=>decide (x≤y)).toArray) os:=Any.slices_Sort_int sortLays blk off cap zs w hH hblk hsz
end Go.Proofs.YtnljdkglncmfaaaGreat
namespace Go.Proofs.YtnljdkglncmfaaaGreat
open Go.RowKit
open Go.Sort
set_option linter.unusedVariables false
theorem sortOwn_any (base:Nat) (a:Option Addr) (cap:Nat) (ns:List Int) (w:World) (hown:w.ownsRow base 3 1 (.slice a ns.length cap) ns.length (ns.map intV)) (h0:0<ns.length) (hm:ns.length≤1000000) :
    Calls Tryz.prog 153 #[.slice a ns.length cap] w fun e w'=>e=.returned (.tuple #[])∧w'.ownsRow base 3 1 (.slice a ns.length cap) ns.length ((sortI ns).map intV)∧Below base w w':=by
  rcases hown.2 with ⟨_,h⟩ | ⟨g,cap',cur,hv,hb,hh,hn,hc,hs,ht⟩
  · omega
  · injection hv with h1 h2 h3
    subst h1 h3
    have hlt:g<w.heap.size:=zB hh
    rw [Nat.mul_one] at ht
    refine (sort_any g 0 cap ns w (holds_of_blockI hh (by rw [ht];rfl)) hlt (by omega)).mono ?_
    rintro e w' ⟨rfl,n,os,rfl⟩
    refine ⟨rfl,ownsRow_sortedI (ss:=ns) (sortI_length ns) hb hh hn hc hs,?_⟩
    exact (Below.refl base w).grown (grownBy_sortedI _) (by omega) (fun k hk=>by cases hk;exact hb)
set_option maxHeartbeats 1600000 in
theorem cloneI_any (a:Option Addr) (cap:Nat) (ns:List Int) (w:World) (hr:CellsI w a ns) (hz:a=none → ns.length=0) (hl:ns.length≤1000000) :
    Calls Tryz.prog 152 #[.slice a ns.length cap] w (zAZ 3 1 ns.length (ns.map intV) w):=by
  rcases a with _ | ad
  · obtain rfl:=List.eq_nil_of_length_eq_zero (hz rfl)
    have hnil:∀ w,(binOp .eql 28 (.slice none 0 cap) (.slice none 0 0)).run Tryz.prog w=.ok (.bool true) w:=fun w=>Lib.run_eql_slice_nil (P:=Tryz.prog) w 28 3 none 0 cap 0 0 Tryz.underlying28
    clear hz hr hl
    go_enter Tryz.func152,Tryz.ntmps152
    go_wp2
    go_ret
    exact ⟨none,0,rfl,World.ownsRow_nil _ _ _ _,Below.refl _ _⟩
  · clear hz
    have hnil:∀ w,(binOp .eql 28 (.slice (some ad) ns.length cap) (.slice none 0 0)).run Tryz.prog w=.ok (.bool false) w:=fun w=>Lib.run_eql_slice_nil (P:=Tryz.prog) w 28 3 (some ad) ns.length cap 0 0 Tryz.underlying28
    go_enter Tryz.func152,Tryz.ntmps152
    go_wp2_with (at_builtin;refine zF rfl (.tmp 5) (.tmp 6) rfl elemI w.heap.size _ 0 [] (by rfl) (World.ownsRow_lit w #[] 0 (Nat.le_refl _) (by unfold maxLen;omega) (by rfl)) _ _ _ (ns.map intV) (by rfl) (by simp) (RowAt.alloc hr _) (intV_one _) (by unfold maxLen;omega) (by omega) (by simp) (by simp) ?_;intro a' c' w1 hown hg hat)
    simp only [Nat.zero_add,List.nil_append] at hown ⊢
    have hbw:Below w.heap.size w w1:=Below.appended ((Below.refl _ _).alloc (Nat.le_refl _) _) (World.ownsRow_lit (e:=3) (size:=1) w #[] 0 (Nat.le_refl _) (by unfold maxLen;omega) (by rfl)) hg (by simp) (Nat.le_refl _)
    go_wp2
    go_ret
    exact ⟨a',c',rfl,hown,hbw⟩
set_option maxHeartbeats 1600000 in
theorem most_any (a:Option Addr) (cap:Nat) (ns:List Int) (w:World) (hr:CellsI w a ns) (hz:a=none → ns.length=0) (hl:ns.length≤1000000) :
    Calls Tryz.prog 138 #[.slice a ns.length cap] w fun e w'=>e=.returned (.int .i64 (mostL ns))∧Below w.heap.size w w':=by
  by_cases h0:ns.length=0
  · obtain rfl:=List.eq_nil_of_length_eq_zero h0
    clear hr hz hl h0
    go_enter Tryz.func138,Tryz.ntmps138
    go_wp2
    go_ret
    exact ⟨rfl,Below.refl _ _⟩
  · have hp:0<ns.length:=by omega
    have HC:=Lib.hid (cloneI_any a cap ns w hr hz hl)
    have HS:Hid (∀ W base A c,W.ownsRow base 3 1 (.slice A ns.length c) ns.length (ns.map intV) → Calls Tryz.prog 153 #[.slice A ns.length c] W fun e w'=>e=.returned (.tuple #[])∧w'.ownsRow base 3 1 (.slice A ns.length c) ns.length ((sortI ns).map intV)∧Below base W w'):=fun W base A c h=>sortOwn_any base A c ns W h hp hl
    have hq:majN ns.length≤ns.length∧0<majN ns.length:=by unfold majN;omega
    have HM:Hid (∀ W,Calls Tryz.prog 92 #[.int .i64 (ns.length:Int)] W fun e w'=>e=.returned (.int .i64 (majN ns.length:Nat))∧W=w'):=fun W=>by
      have:=majority_any (ns.length:Int) (by omega) (by omega) W
      rw [if_neg (by omega)] at this
      unfold majN
      rwa [show ((ns.length / 2+1:Nat):Int)=(ns.length:Int) / 2+1 by omega]
    have hlen:=sortI_length ns
    have HV:Hid (mostL ns=(sortI ns).getD (ns.length - majN ns.length) 0):=if_neg h0
    generalize majN ns.length=q at hq HM HV
    have hl0:((ns.length:Int) == 0)=false:=by rw [beq_eq_false_iff_ne];omega
    have hk0:(0:Int)≤(ns.length:Int) - (q:Int):=by omega
    have hk1:(ns.length:Int) - (q:Int)<(ns.length:Int):=by omega
    have hk2:((ns.length:Int) - (q:Int)).toNat=ns.length - q:=by omega
    have hql:ns.length - q<(sortI ns).length:=by omega
    have HQ:=Lib.hid hql
    clear hr hz h0 hlen hql
    generalize sortI ns=S at HS HV HQ
    go_enter Tryz.func138,Tryz.ntmps138
    go_wp2_with (first
      | (go_at_call 152;refine (HC.out).mono ?_;rintro e w1 ⟨a1,c1,rfl,own1,hb1⟩)
      | (go_at_call 153;refine (HS.out _ _ _ _ own1).mono ?_;rintro e w2 ⟨rfl,own2,hb2⟩;have hw2:=hb1.trans hb2;obtain ⟨g,off,rfl,hglt,hcell⟩:=CellsI.at (ns:=S) (RowAt.of_own own2) HQ.out)
      | (go_at_call 92;refine (HM.out _).mono ?_;rintro e w3 ⟨rfl,rfl⟩))
    go_ret
    rw [HV.out]
    exact ⟨by rw [List.getD_eq_getElem?_getD,List.getElem?_eq_getElem HQ.out];rfl,hw2⟩
end Go.Proofs.YtnljdkglncmfaaaGreat
namespace Go.Proofs.YtnljdkglncmfaaaGreat
open Go.RowKit
set_option linter.unusedVariables false
def zCG (B T:Int) (l:List En) (term settled:Int):Nat → Int
  | 0=>if settled<B∧T=term then B else settled
  | k+1=>if settled<B+((k+1:Nat):Int) then (if endT (l.take (k+1)) T=term then B+((k+1:Nat):Int) else zCG B T l term settled k) else settled
def zAR (B T:Int) (l:List En) (term settled i:Int):Int:=if i<B then settled else zCG B T l term settled (i - B).toNat
def zCW (b t:Int) (es:List En) (ms:List Int) (term settled:Int):Int:=zAR (zAN b t es).1 (zAN b t es).2.1 (zAN b t es).2.2 term settled (min ((zAN b t es).1+(zAN b t es).2.2.length) (mostL ms))
theorem zDA {B T:Int} {l:List En} {term settled i:Int} (h:i<B):zAR B T l term settled i=settled:=if_pos h
theorem commitAt_done {B T:Int} {l:List En} {term settled i:Int} (h:B≤i) (hs:i≤settled):zAR B T l term settled i=settled:=by
  unfold zAR
  rw [if_neg (by omega)]
  match hj:(i - B).toNat with
  | 0=>unfold zCG;rw [if_neg (fun h=>by omega)]
  | k+1=>unfold zCG;rw [if_neg (by omega)]
theorem commitAt_hit {B T:Int} {l:List En} {term settled i:Int} (h:B≤i) (hs:settled<i) (ht:endT (l.take (i - B).toNat) T=term):zAR B T l term settled i=i:=by
  unfold zAR
  rw [if_neg (by omega)]
  match hj:(i - B).toNat with
  | 0 =>
    rw [hj,List.take_zero,endT_nil] at ht
    unfold zCG;rw [if_pos ⟨by omega,ht⟩];omega
  | k + 1 =>
    rw [hj] at ht
    unfold zCG;rw [if_pos (by omega),if_pos ht];omega
theorem commitAt_next {B T:Int} {l:List En} {term settled i:Int} (h:B≤i) (hs:settled<i) (ht:endT (l.take (i - B).toNat) T≠term):zAR B T l term settled i=zAR B T l term settled (i - 1):=by
  have h1:zAR B T l term settled i=zCG B T l term settled (i - B).toNat:=if_neg (by omega)
  rw [h1]
  match hj:(i - B).toNat with
  | 0 =>
    rw [hj,List.take_zero,endT_nil] at ht
    unfold zCG
    rw [if_neg (fun h=>ht h.2),zDA (by omega)]
  | k + 1 =>
    rw [hj] at ht
    unfold zAR
    rw [if_neg (by omega),show (i - 1 - B).toNat=k by omega]
    rw [zCG,if_pos (by omega),if_neg ht]
def ComInv (b t:Int) (a:Option Addr) (cap:Nat) (es:List En) (am:Option Addr) (cm:Nat) (ms:List Int) (term settled:Int) (B T:Int) (l:List En) (R:Int) (w:World) (a':Act) (wr:World):Prop :=
  ∃ (i:Int) (u:Nat → Value),-9223372036854775807≤i+1∧i≤B+l.length∧zAR B T l term settled i=R∧wr.heap[w.heap.size]?=some (.cells #[.int .i64 b,.int .i64 t,.slice a es.length cap] 55)∧Below w.heap.size w wr∧a'={ tmps:=#[logV b t a es.length cap,.slice am ms.length cm,.int .i64 term,.int .i64 settled,.pointer (some ⟨w.heap.size,0,none⟩),u 5,u 6,u 7,.int .i64 0,u 9,u 10,.int .i64 i,u 12,u 13,u 14,u 15,u 16,u 17,u 18,u 19,u 20,u 21,u 22,u 23,u 24,u 25,u 26,u 27,u 28,u 29,u 30,u 31,u 32,u 33,u 34,u 35,u 36,u 37,u 38,u 39,u 40,u 41],defers:=[] }
theorem ComInv.mk {b t:Int} {a:Option Addr} {cap:Nat} {es:List En} {am:Option Addr} {cm:Nat} {ms:List Int} {term settled:Int} {B T:Int} {l:List En} {R:Int} {w:World} {a':Act} {wr:World} {i:Int}
    (h0:-9223372036854775807≤i+1) (h1:i≤B+l.length) (h2:zAR B T l term settled i=R) (h3:wr.heap[w.heap.size]?=some (.cells #[.int .i64 b,.int .i64 t,.slice a es.length cap] 55)) (h4:Below w.heap.size w wr) (h5:a'={ tmps:=#[logV b t a es.length cap,.slice am ms.length cm,.int .i64 term,.int .i64 settled,.pointer (some ⟨w.heap.size,0,none⟩),a'.tmps.getD 5 undef,a'.tmps.getD 6 undef,a'.tmps.getD 7 undef,.int .i64 0,a'.tmps.getD 9 undef,a'.tmps.getD 10 undef,.int .i64 i,a'.tmps.getD 12 undef,a'.tmps.getD 13 undef,a'.tmps.getD 14 undef,a'.tmps.getD 15 undef,a'.tmps.getD 16 undef,a'.tmps.getD 17 undef,a'.tmps.getD 18 undef,a'.tmps.getD 19 undef,a'.tmps.getD 20 undef,a'.tmps.getD 21 undef,a'.tmps.getD 22 undef,a'.tmps.getD 23 undef,a'.tmps.getD 24 undef,a'.tmps.getD 25 undef,a'.tmps.getD 26 undef,a'.tmps.getD 27 undef,a'.tmps.getD 28 undef,a'.tmps.getD 29 undef,a'.tmps.getD 30 undef,a'.tmps.getD 31 undef,a'.tmps.getD 32 undef,a'.tmps.getD 33 undef,a'.tmps.getD 34 undef,a'.tmps.getD 35 undef,a'.tmps.getD 36 undef,a'.tmps.getD 37 undef,a'.tmps.getD 38 undef,a'.tmps.getD 39 undef,a'.tmps.getD 40 undef,a'.tmps.getD 41 undef],defers:=[] }):ComInv b t a cap es am cm ms term settled B T l R w a' wr :=
  ⟨i,fun k=>a'.tmps.getD k undef,h0,h1,h2,h3,h4,h5⟩
theorem mostL_wf {ns:List Int} (h:∀ n ∈ ns,(Lit.int .i64 n).wf=true):-9223372036854775808≤mostL ns∧mostL ns≤9223372036854775807:=by
  by_cases h0:ns.length=0
  · unfold mostL;rw [if_pos h0];omega
  · have:=h _ (most_spec h0).1
    simpa [Lit.wf,IntKind.min,IntKind.max,IntKind.bits,IntKind.signed] using this
set_option maxRecDepth 100000 in
set_option maxHeartbeats 6400000 in
theorem commit_any (b t : Int) (a : Option Addr) (cap : Nat) (es : List En) (am : Option Addr) (cm : Nat) (ms : List Int) (term settled : Int) (w : World) (hl : LogIn w a cap es) (hm : IntsIn w am cm ms) (hml : ms.length ≤ 1000000) :
    Calls Tryz.prog 120 #[logV b t a es.length cap,.slice am ms.length cm,.int .i64 term,.int .i64 settled] w fun e w'=>e=.returned (.int .i64 (zCW b t es ms term settled))∧Below w.heap.size w w':=by
  have HLa:Hid (∀ W,Below w.heap.size w W → Calls Tryz.prog 60 #[logV b t a es.length cap] W fun e w'=>e=.returned (.tuple #[.int .i64 (lastF b t es).1,.int .i64 (lastF b t es).2])∧Below W.heap.size W w'):=fun W h=>last_any b t a cap es W (hl.below h)
  have HTe:Hid (∀ W i,Below w.heap.size w W → Calls Tryz.prog 97 #[logV b t a es.length cap,.int .i64 i] W fun e w'=>e=.returned (.tuple #[.int .i64 (termF b t es i).1,.bool (termF b t es i).2])∧Below W.heap.size W w'):=fun W i h=>term_any b t a cap es i W (hl.below h)
  have HMo:Hid (∀ W,Below w.heap.size w W → Calls Tryz.prog 138 #[.slice am ms.length cm] W fun e w'=>e=.returned (.int .i64 (mostL ms))∧Below W.heap.size W w'):=fun W h=>most_any am cm ms W (hm.cells.below h) hm.none_ hml
  have hmw:=mostL_wf hm.wf
  have hmay:=fairL_may b t es
  clear hl hm hml
  unfold zCW
  unfold lastF at HLa
  unfold termF at HTe
  generalize mostL ms=M at HMo hmw ⊢
  generalize zAN b t es=F at HLa HTe hmay ⊢
  obtain ⟨B,T,l⟩:=F
  simp only at HLa HTe hmay ⊢
  obtain ⟨h1,h2,_,_,_,h6,hx⟩:=zAB hmay
  have h6':(l.length:Int)≤64:=by omega
  have HTi:Hid (∀ W i,Below w.heap.size w W → B≤i → i≤B+l.length → Calls Tryz.prog 97 #[logV b t a es.length cap,.int .i64 i] W fun e w'=>e=.returned (.tuple #[.int .i64 (endT (l.take (i - B).toNat) T),.bool true])∧Below W.heap.size W w'):=fun W i h hb hi=>by
    have:=HTe.out W i h
    rwa [termL_at (b:=B) (t:=T) (es:=l) (i:=i) (i - B).toNat (by omega) (by omega)] at this
  have HTo:Hid (∀ W i,Below w.heap.size w W → i<B → Calls Tryz.prog 97 #[logV b t a es.length cap,.int .i64 i] W fun e w'=>e=.returned (.tuple #[.int .i64 0,.bool false])∧Below W.heap.size W w'):=fun W i h hb=>by
    have:=HTe.out W i h
    rwa [termL_out (.inl hb)] at this
  clear hmay hx HTe
  generalize endT l T=LT at HLa
  obtain ⟨I,hI⟩:∃ I,min (B+(l.length:Int)) M=I:=⟨_,rfl⟩
  have hI1:I≤B+l.length:=by omega
  have hI2:-9223372036854775807≤I+1:=by omega
  obtain ⟨R,hR⟩:∃ R,zAR B T l term settled I=R:=⟨_,rfl⟩
  rw [hI,hR]
  have HI:=Lib.hid hI
  have HR:=Lib.hid hR
  clear hI hR
  go_enter Tryz.func120,Tryz.ntmps120
  go_wp2
  refine scope_loop 0 (ComInv b t a cap es am cm ms term settled B T l R w) (fun a' _=>match a'.tmps.getD 11 undef with | .int _ n=>(n - B+1).toNat | _=>0) rfl ?_ ?_
  · rintro a' wr ⟨i,u,hi0,hi1,hiR,g0,hw0,rfl⟩
    have HiR:=Lib.hid hiR
    clear hiR
    obtain ⟨hc0,hc1,hc2,hf0,hf1,hf2,hlt0⟩:=box3 g0
    by_cases hlow:i<B
    · have HRR:Hid (R=settled):=by rw [Hid,← HiR.out,zDA hlow]
      go_wp2_with (go_at_call 97;refine (HTo.out _ _ hw0 hlow).mono ?_;rintro e w1 ⟨rfl,hb1⟩)
      simp only [Exit.jump]
      go_ret
      rw [HRR.out]
      exact ⟨rfl,hw0.trans (hb1.mono hw0.size)⟩
    · have hBi:B≤i:=by omega
      have HT:=Lib.hid (HTi.out wr i hw0 hBi hi1)
      by_cases hs:settled<i
      · by_cases ht:endT (l.take (i - B).toNat) T=term
        · have HRR:Hid (R=i):=by rw [Hid,← HiR.out,commitAt_hit hBi hs ht]
          rw [ht] at HT
          clear ht
          go_wp2_with (go_at_call 97;refine (HT.out).mono ?_;rintro e w1 ⟨rfl,hb1⟩)
          simp only [Exit.jump]
          go_ret
          rw [HRR.out]
          exact ⟨rfl,hw0.trans (hb1.mono hw0.size)⟩
        · have HRR:Hid (zAR B T l term settled (i - 1)=R):=by rw [Hid,← HiR.out,commitAt_next hBi hs ht]
          generalize endT (l.take (i - B).toNat) T=et at HT ht
          have ht1:(et == term)=false:=by rw [beq_eq_false_iff_ne];exact ht
          clear ht
          go_wp2_with (go_at_call 97;refine (HT.out).mono ?_;rintro e w1 ⟨rfl,hb1⟩)
          refine wp_goto (And.intro rfl (And.intro (ComInv.mk (i:=i - 1) (by omega) (by omega) HRR.out (zA hb1 g0) (hw0.trans (hb1.mono hw0.size)) rfl) ?_))
          show (i - 1 - B+1).toNat<(i - B+1).toNat
          omega
      · have HRR:Hid (R=settled):=by rw [Hid,← HiR.out,commitAt_done hBi (by omega)]
        generalize endT (l.take (i - B).toNat) T=et at HT
        go_wp2_with (go_at_call 97;refine (HT.out).mono ?_;rintro e w1 ⟨rfl,hb1⟩)
        simp only [Exit.jump]
        go_ret
        rw [HRR.out]
        exact ⟨rfl,hw0.trans (hb1.mono hw0.size)⟩
  · intro hp
    go_wp2_with (first
      | (go_at_call 60;refine (HLa.out _ (zC _ _)).mono ?_;rintro e w1 ⟨rfl,hb1⟩;have hw0:=zJ hb1;have g0:=zA hb1 (zG w _);obtain ⟨hc0,hc1,hc2,hf0,hf1,hf2,hlt0⟩:=box3 g0)
      | (go_at_call 138;refine (HMo.out _ hw0).mono ?_;rintro e w2 ⟨rfl,hb2⟩;replace hw0:=hw0.trans (hb2.mono hw0.size);replace g0:=zA hb2 g0;obtain ⟨hc0,hc1,hc2,hf0,hf1,hf2,hlt0⟩:=box3 g0))
    go_step3
    refine (by assumption:∀ (a:Act) (w:World),_ → _) _ _ (hp _ _ ?_)
    rw [HI.out]
    exact ComInv.mk (i:=I) hI2 hI1 HR.out g0 hw0 rfl
end Go.Proofs.YtnljdkglncmfaaaGreat
