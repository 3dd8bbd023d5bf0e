/-
 Part PC of the proof.
-/
import Derived.Shelf.Sort.Plain
import Derived.Sort.OwnSortedInts
import Derived.Test.YtogbpifcmhafkaaGreatPH
import Derived.Test.YtogbpifcmhafkaaGreatBitsLen
open Go renaming Addr->mB,Calls->iA,World->uA,maxLen->fC,undef->vB
open Go.Lib renaming hid->fA
open Go.Proofs.Tryz renaming prog->nL
open Go.Value renaming int->dD,oneCell'->qE
open Go.World renaming ownsRow_nil->nB,size_alloc->wB
open Nat renaming add_zero->yJ
open Option renaming some->yA
namespace Go.Proofs.YtogbpifcmhafkaaGreat
open Go.RowKit Tryz
open Go.Lib(hid)
set_option linter.unusedVariables false
set_option linter.unusedSimpArgs false
set_option maxRecDepth 100000
set_option maxHeartbeats 16000000
section
open Go.Shelf Go.Sort Go.RowKit
def zHo:Go.Shelf.Ren:=⟨fun | 189=>139 | 125=>224 | 257=>223 | 128=>302 | 129=>303 | 294=>293 | 295=>294 | 296=>295 | 297=>296 | 298=>297 | 299=>298 | 216=>299 | 300=>300 | 301=>301 | 328=>347 | 329=>348 | 330=>349 | 331=>350 | 332=>351 | 215=>226 | 343=>371 | n=>n,fun | 28=>63 | 3=>3 | 46=>187 | 0=>0 | 51=>62 | 53=>384 | 4=>4 | 183=>378 | 182=>377 | 131=>129 | 5=>5 | 9=>9 | 218=>423 | 222=>427 | 228=>446 | 229=>159 | n=>n,fun | n=>n⟩
theorem zPw:Go.Proofs.Lays.n189 nL zHo:={
 mixed:=by kernel_rfl
 f125:=Tryz.func224.trans (congrArg yA (by kernel_rfl))
 f128:=Tryz.func302.trans (congrArg yA (by kernel_rfl))
 f129:=Tryz.func303.trans (congrArg yA (by kernel_rfl))
 f189:=Tryz.func139.trans (congrArg yA (by kernel_rfl))
 f215:=Tryz.func226.trans (congrArg yA (by kernel_rfl))
 f216:=Tryz.func299.trans (congrArg yA (by kernel_rfl))
 f257:=Tryz.func223.trans (congrArg yA (by kernel_rfl))
 f294:=Tryz.func293.trans (congrArg yA (by kernel_rfl))
 f295:=Tryz.func294.trans (congrArg yA (by kernel_rfl))
 f296:=Tryz.func295.trans (congrArg yA (by kernel_rfl))
 f297:=Tryz.func296.trans (congrArg yA (by kernel_rfl))
 f298:=Tryz.func297.trans (congrArg yA (by kernel_rfl))
 f299:=Tryz.func298.trans (congrArg yA (by kernel_rfl))
 f300:=Tryz.func300.trans (congrArg yA (by kernel_rfl))
 f301:=Tryz.func301.trans (congrArg yA (by kernel_rfl))
 f328:=Tryz.func347.trans (congrArg yA (by kernel_rfl))
 f329:=Tryz.func348.trans (congrArg yA (by kernel_rfl))
 f330:=Tryz.func349.trans (congrArg yA (by kernel_rfl))
 f331:=Tryz.func350.trans (congrArg yA (by kernel_rfl))
 f332:=Tryz.func351.trans (congrArg yA (by kernel_rfl))
 f343:=Tryz.func371.trans (congrArg yA (by kernel_rfl))
 t0:=Tryz.underlying0
 a0:=Tryz.isAgg0
 z0:=Tryz.sizeOf0
 v0:=Tryz.zeroValue0
 t3:=Tryz.underlying3
 a3:=Tryz.isAgg3
 z3:=Tryz.sizeOf3
 v3:=Tryz.zeroValue3
 t4:=Tryz.underlying4
 a4:=Tryz.isAgg4
 z4:=Tryz.sizeOf4
 v4:=Tryz.zeroValue4
 t5:=Tryz.underlying5
 a5:=Tryz.isAgg5
 z5:=Tryz.sizeOf5
 v5:=Tryz.zeroValue5
 t9:=Tryz.underlying9
 a9:=Tryz.isAgg9
 z9:=Tryz.sizeOf9
 v9:=Tryz.zeroValue9
 t28:=Tryz.underlying63
 a28:=Tryz.isAgg63
 z28:=Tryz.sizeOf63
 v28:=Tryz.zeroValue63
 t46:=Tryz.underlying187
 a46:=Tryz.isAgg187
 z46:=Tryz.sizeOf187
 v46:=Tryz.zeroValue187
 t51:=Tryz.underlying62
 a51:=Tryz.isAgg62
 z51:=Tryz.sizeOf62
 v51:=Tryz.zeroValue62
 t53:=Tryz.underlying384
 a53:=Tryz.isAgg384
 z53:=Tryz.sizeOf384
 v53:=Tryz.zeroValue384
 t131:=Tryz.underlying129
 a131:=Tryz.isAgg129
 z131:=Tryz.sizeOf129
 v131:=Tryz.zeroValue129
 t182:=Tryz.underlying377
 a182:=Tryz.isAgg377
 z182:=Tryz.sizeOf377
 v182:=Tryz.zeroValue377
 t183:=Tryz.underlying378
 a183:=Tryz.isAgg378
 z183:=Tryz.sizeOf378
 v183:=Tryz.zeroValue378
 t218:=Tryz.underlying423
 a218:=Tryz.isAgg423
 z218:=Tryz.sizeOf423
 v218:=Tryz.zeroValue423
 t222:=Tryz.underlying427
 a222:=Tryz.isAgg427
 z222:=Tryz.sizeOf427
 v222:=Tryz.zeroValue427
 t228:=Tryz.underlying446
 a228:=Tryz.isAgg446
 z228:=Tryz.sizeOf446
 v228:=Tryz.zeroValue446
 t229:=Tryz.underlying159
 a229:=Tryz.isAgg159
 z229:=Tryz.sizeOf159
 v229:=Tryz.zeroValue159 }
theorem zPx (blk off cap:Nat) (zs:List Int) (w:uA) (hH:Go.Sort.Holds (dD .i64) w blk off zs.toArray) (hblk:blk<w.heap.size) (hsz:zs.length<4611686018427387904) :
  iA nL 139 #[.slice (yA ⟨blk,off,none⟩) zs.length cap] w fun e w' =>
   e=.returned (.tuple #[])/\∃ n os,w'=grow (putRow (dD .i64) (Sort.ahead w n) blk off (zs.mergeSort fun x y=>decide (x<=y)).toArray) os:=Any.slices_Sort_int zPw blk off cap zs w hH hblk hsz
end
section
open Go.Sort
theorem zBn (base:Nat) (a:Option mB) (cap:Nat) (ns:List Int) (w:uA) (hown:w.ownsRow base 3 1 (.slice a ns.length cap) ns.length (ns.map zOr)) (h0:0<ns.length) (hm:ns.length<=1000000) :
  iA prog 139 #[.slice a ns.length cap] w fun e w'=>e=.returned (.tuple #[])/\w'.ownsRow base 3 1 (.slice a ns.length cap) ns.length ((wN ns).map zOr)/\Below base w w':=by
 rcases hown.2 with ⟨_,h⟩ | ⟨g,cap',cur,hv,hb,hh,hn,hc,hs,ht⟩
 ·omega
 ·injection hv with h1 h2 h3
  subst h1 h3
  have hlt:g<w.heap.size:=eB hh
  rw [Nat.mul_one] at ht
  refine (zPx g 0 cap ns w (holds_of_blockI hh (by rw [ht];rfl)) hlt (by omega)).mono ?_
  rintro e w' ⟨rfl,n,os,rfl⟩
  refine ⟨rfl,ownsRow_sortedI (ss:=ns) (sR ns) hb hh hn hc hs,?_⟩
  exact (Below.refl base w).grown (grownBy_sortedI _) (by omega) (fun k hk=>by cases hk;exact hb)
end
def zHM (B T:Int) (l:List En) (term settled:Int):Nat -> Int
 | 0=>if settled<B/\T=term then B else settled
 | k+1=>if settled<B+((k+1:Nat):Int) then (if endT (l.take (k+1)) T=term then B+((k+1:Nat):Int) else zHM B T l term settled k) else settled
def zHL (B T:Int) (l:List En) (term settled i:Int):Int:=if i<B then settled else zHM B T l term settled (i - B).toNat
def zNo (b t:Int) (a:Option mB) (cap:Nat) (es:List En) (am:Option mB) (cm:Nat) (ms:List Int) (term settled:Int) (B T:Int) (l:List En) (R:Int) (w:uA) (a':Act) (wr:uA):Prop :=
 ∃ (i:Int) (u:Nat -> Value),-9223372036854775807<=i+1/\i<=B+l.length/\zHL B T l term settled i=R/\wr.heap[w.heap.size]?=yA (.cells #[b,t,.slice a es.length cap] 148)/\Below w.heap.size w wr/\a'={ tmps:=#[zKu b t a es.length cap,.slice am ms.length cm,.int .i64 term,.int .i64 settled,.pointer (yA ⟨w.heap.size,0,none⟩),u 5,u 6,u 7,.int .i64 0,u 9,u 10,.int .i64 i,u 12,u 13,u 14,u 15,u 16,u 17,u 18,u 19,u 20,u 21,u 22,u 23,u 24,u 25,u 26,u 27,u 28,u 29,u 30,u 31,u 32,u 33,u 34,u 35,u 36,u 37,u 38,u 39,u 40,u 41],defers:=[] }
theorem zNo.mk {b t:Int} {a:Option mB} {cap:Nat} {es:List En} {am:Option mB} {cm:Nat} {ms:List Int} {term settled:Int} {B T:Int} {l:List En} {R:Int} {w:uA} {a':Act} {wr:uA} {i:Int}
  (h0:-9223372036854775807<=i+1) (h1:i<=B+l.length) (h2:zHL B T l term settled i=R) (h3:wr.heap[w.heap.size]?=yA (.cells #[b,t,.slice a es.length cap] 148)) (h4:Below w.heap.size w wr) (h5:a'={ tmps:=#[zKu b t a es.length cap,.slice am ms.length cm,.int .i64 term,.int .i64 settled,.pointer (yA ⟨w.heap.size,0,none⟩),a'.tmps.getD 5 vB,a'.tmps.getD 6 vB,a'.tmps.getD 7 vB,.int .i64 0,a'.tmps.getD 9 vB,a'.tmps.getD 10 vB,.int .i64 i,a'.tmps.getD 12 vB,a'.tmps.getD 13 vB,a'.tmps.getD 14 vB,a'.tmps.getD 15 vB,a'.tmps.getD 16 vB,a'.tmps.getD 17 vB,a'.tmps.getD 18 vB,a'.tmps.getD 19 vB,a'.tmps.getD 20 vB,a'.tmps.getD 21 vB,a'.tmps.getD 22 vB,a'.tmps.getD 23 vB,a'.tmps.getD 24 vB,a'.tmps.getD 25 vB,a'.tmps.getD 26 vB,a'.tmps.getD 27 vB,a'.tmps.getD 28 vB,a'.tmps.getD 29 vB,a'.tmps.getD 30 vB,a'.tmps.getD 31 vB,a'.tmps.getD 32 vB,a'.tmps.getD 33 vB,a'.tmps.getD 34 vB,a'.tmps.getD 35 vB,a'.tmps.getD 36 vB,a'.tmps.getD 37 vB,a'.tmps.getD 38 vB,a'.tmps.getD 39 vB,a'.tmps.getD 40 vB,a'.tmps.getD 41 vB],defers:=[] }):zNo b t a cap es am cm ms term settled B T l R w a' wr :=
 ⟨i,fun k=>a'.tmps.getD k vB,h0,h1,h2,h3,h4,h5⟩
theorem so1:wN [1]=[1]:=by first | rfl | decide | simp [wN]
theorem most1 (A:Option mB) (c:Nat) (w:uA) (h:dC w A [.int .i64 1]) (hA:A=none -> 1=0):iA prog 305 #[.slice A 1 c] w fun e w'=>e=.returned (.int .i64 1)/\Below w.heap.size w w':=by
 have HC:=fA (jT A c 1 [.int .i64 1] w h hA rfl (by intro u hu;simp at hu;subst hu;rfl) (by omega))
 have HM:Hid (∀ W,iA prog 152 #[.int .i64 1] W fun e w'=>e=.returned (.int .i64 1)/\w'=W):=fA fun W=>by
  go_enter func152,ntmps152
  go_wp2
  go_ret
  exact ⟨rfl,rfl⟩
 have HS:=fA (fun (B:Nat) (A:Option mB) c W (hw:W.ownsRow B 3 1 (.slice A 1 c) 1 [.int .i64 1])=>(by have:=zBn B A c [1] W hw (by decide) (by decide);rw [so1] at this;exact this:iA prog 139 #[.slice A 1 c] W fun e w'=>e=.returned (.tuple #[])/\w'.ownsRow B 3 1 (.slice A 1 c) 1 [.int .i64 1]/\Below B W w'))
 clear h hA
 go_enter func305,ntmps305
 go_wp2_with (first
  | (go_at_call 121;refine HC.out.mono ?_;rintro e w1 ⟨A1,c1,rfl,own1,hb1⟩)
  | (go_at_call 139;refine (HS.out _ _ _ _ own1).mono ?_;rintro e w2 ⟨rfl,own2,hb2⟩;obtain ⟨b,o,rfl,hl,c0⟩:=(dC.of_own own2).at (k:=0) rfl;rw [yJ] at c0)
  | (go_at_call 152;refine (HM.out _).mono ?_;rintro e wx ⟨rfl,hx⟩;subst hx))
 go_ret
 exact ⟨rfl,hb1.trans hb2⟩
theorem zQn (L A:Option mB) (lc c:Nat) (w:uA) (hL:Lo w L 1) (h:dC w A [.int .i64 1]) (hA:A=none -> 1=0):iA prog 229 #[zLo L 1 lc,.slice A 1 c,.int .i64 1,.int .i64 0] w fun e w'=>e=.returned (.int .i64 1)/\Below w.heap.size w w':=by
 have HL:=fA (fun W (hb:Below w.heap.size w W)=>zOu L 1 lc W (hL.below hb))
 have HT:=fA (fun W (hb:Below w.heap.size w W)=>zRi L 1 lc W (hL.below hb))
 have HM:=fA (fun W (hb:Below w.heap.size w W)=>most1 A c W (h.below hb) hA)
 have hal:=wA w (.cells #[.int .i64 0,.int .i64 0,.slice L 1 lc] 148)
 have g0:=rB w (.cells #[.int .i64 0,.int .i64 0,.slice L 1 lc] 148)
 obtain ⟨c0,c1,c2,f0,f1,f2,hlt⟩:=vH g0
 clear hL h hA
 go_enter func229,ntmps229
 go_wp2_with fail
 refine wp_scope_straight ?_
 go_wp2_with (first
  | (go_at_call 86;refine (HL.out _ hal).mono ?_;rintro e w1 ⟨rfl,hb1⟩;have hw1:=hal.trans (hb1.mono hal.size);obtain ⟨d0,d1,d2,e0,e1,e2,dlt⟩:=vH (kA hb1 g0))
  | (go_at_call 305;refine (HM.out _ hw1).mono ?_;rintro e w2 ⟨rfl,hb2⟩;have hw2:=hw1.trans (hb2.mono hw1.size);obtain ⟨x0,x1,x2,y0,y1,y2,xlt⟩:=vH (kA hb2 (kA hb1 g0))))
 refine wp_label ?_
 go_wp2_with (go_at_call 157;refine (HT.out _ hw2).mono ?_;rintro e w3 ⟨rfl,hb3⟩)
 rw [Exit.noGoto_ret]
 go_ret
 exact ⟨rfl,hw2.trans (hb3.mono hw2.size)⟩
def Bs (w:uA) (B:Nat) (A:Option mB) (n c:Nat):Prop:=∃ bs:List UInt8,bs.length=n/\w.ownsRow B 5 1 (.slice A n c) n (bs.map pI)
theorem zCV (x:Int) (h0:0<=x) (h1:x<256):∃ b:UInt8,dD .u8 x=pI b:=⟨UInt8.ofNat x.toNat,by
 unfold pI
 rw [UInt8.toNat_ofNat_of_lt' (show x.toNat<256 by omega),Int.toNat_of_nonneg h0]⟩
theorem Bs.snoc {w:uA} {B:Nat} {A:Option mB} {n c:Nat} {bs:List UInt8} {x:Int} (h0:0<=x) (h1:x<256) (hl:bs.length=n) (h:w.ownsRow B 5 1 (.slice A (n+1) c) (n+1) (bs.map pI ++ [.int .u8 x])):Bs w B A (n+1) c:=by
 obtain ⟨b,hb⟩:=zCV x h0 h1
 rw [hb] at h
 exact ⟨bs ++ [b],by simp [hl],by rw [List.map_append];exact h⟩
theorem zLs (x:Int) (hx:x=0\/x=1) (w:uA):iA prog 234 #[x] w fun e w'=>e=.returned (.int .i64 x)/\w'=w:=by
 have hb:((Lib.bitLen x.toNat:Nat):Int)=x:=by rcases hx with rfl | rfl <;> decide
 have HB:=fA (zHx x w (by omega) (by omega))
 rw [hb] at HB
 clear hb
 rcases hx with rfl | rfl
 all_goals go_enter func234,ntmps234
 all_goals go_wp2_with (go_at_call 224;refine HB.out.mono ?_;rintro e wx ⟨rfl,hwx⟩;subst hwx)
 all_goals go_ret
 all_goals exact ⟨rfl,rfl⟩
theorem oddF1 (x:Int) (hx:x=0\/x=1) (w:uA):iA prog 306 #[x] w fun e w'=>e=.returned (.bool false)/\w'=w:=by
 have HS:=fA (zLs x hx w)
 have h0:decide (x<0)=false:=decide_eq_false (by omega)
 clear hx
 go_enter func306,ntmps306
 go_wp2_with (go_at_call 234;refine HS.out.mono ?_;rintro e wx ⟨rfl,hwx⟩;subst hwx)
 go_ret
 exact ⟨rfl,rfl⟩
theorem oddV1 (x:Int) (hx:x=0\/x=1) (w:uA):iA prog 233 #[x] w fun e w'=>e=.returned (.bool false)/\w'=w:=by
 have HS:=fA (zLs x hx w)
 have h0:decide (x<0)=false:=decide_eq_false (by omega)
 clear hx
 go_enter func233,ntmps233
 go_wp2_with (go_at_call 234;refine HS.out.mono ?_;rintro e wx ⟨rfl,hwx⟩;subst hwx)
 go_ret
 exact ⟨rfl,rfl⟩
theorem idx0 (xs:List Int):∀ k,bE (fun _=>false) xs k=-1:=by
 induction xs with
 | nil=>intro k;rfl
 | cons x xs ih=>intro k;simpa [bE] using ih (k+1)
theorem zRc (g:Nat) (eg:∀ args w,(callFunc g args).run prog w=.ok (.enter g args) w) (hg:∀ (x:Int) w,x=0\/x=1 -> iA prog g #[.int .i64 x] w fun e w'=>e=.returned (.bool false)/\w'=w) (A:Option mB) (c:Nat) (xs:List Int) (w:uA) (h:yB kG w A c xs) (hx:∀ x ∈ xs,x=0\/x=1):iA prog 195 #[.slice A xs.length c,.func (.func g) #[] #[]] w fun e w'=>e=.returned (.bool false)/\Below w.heap.size w w':=by
 have HI:=fA (zDt A c xs g #[] eg (fun _=>false) w h fun x hm W hb=>(hg x W (hx x hm)).mono fun e w' ⟨h1,h2⟩=>⟨h1,h2 ▸ xC _⟩)
 rw [idx0] at HI
 clear h hx hg
 go_enter func195,ntmps195
 go_wp2_with (go_at_call 119;refine HI.out.mono ?_;rintro e w1 ⟨rfl,hb1⟩)
 go_ret
 exact ⟨rfl,hb1⟩
theorem put1 (B : Nat) (A : Option mB) (n c : Nat) (x S : Int) (s : Nat) (w : uA) (hS : S = (s : Int)) (h : Bs w B A n c) (hB : B <= w.heap.size) (hx : x = 0 \/ x = 1) (hs : s <= 2) (hn : n <= 1000) : iA prog 307 #[.slice A n c, x, S] w fun e w' => ∃ A' c', e = .returned (.slice A' (n + s) c') /\ Bs w' B A' (n + s) c' /\ fD (zB A) w w' /\ ∀ b ∈ zB A', b ∈ zB A \/ w.heap.size <= b := by
 go_enter func307,ntmps307
 go_wp2
 go_loopw [0,9] (fun v i wr=>∃ (k:Nat) (A':Option mB) (c':Nat),k<=s/\i=.int .i64 (k:Int)/\v=.slice A' (n+k) c'/\Bs wr B A' (n+k) c'/\fD (zB A) w wr/\∀ b ∈ zB A',b ∈ zB A\/w.heap.size<=b) (fun _ i _=>s - (intOf i).toNat)
 case atStart=>exact ⟨0,A,c,by omega,rfl,rfl,h,fD.refl _ _,fun b hb=>.inl hb⟩
 case round =>
  obtain ⟨k,A',c',hk,rfl,rfl,⟨bs,hl,hown⟩,hC,hA⟩:=hrel
  have hk0:(0:Int)<=(k:Int):=by omega
  by_cases hlt:k<s
  ·have hk1:(k:Int)<S:=by omega
   have hsz:=hC.size
   have hq:(S=1/\s=1/\k=0)\/(S=2/\s=2/\k=0)\/(S=2/\s=2/\k=1):=by omega
   clear hS
   rcases hq with ⟨rfl,rfl,rfl⟩ | ⟨rfl,rfl,rfl⟩ | ⟨rfl,rfl,rfl⟩ <;> rcases hx with rfl | rfl
   all_goals (try simp only [yJ] at hl hown)
   all_goals go_wp2_with (first
    | (at_builtin;refine yC rfl (.tmp 12) (.tmp 21) rfl zBa B (.slice A' n c') n (bs.map pI) (by rfl) (hown.alloc _) (yA ⟨wr.heap.size,0,none⟩) 1 1 [.int .u8 0] (by rfl) (by rfl) (dC.new wr #[.int .u8 0] 5) (by simp [qE]) (by unfold fC;omega) (by omega) (by simp;omega) (by simp) ?_;intro a3 c3 w3 hown3 hg3 hat3;have HY:=fA (Bs.snoc (by decide) (by decide) hl hown3))
    | (at_builtin;refine yC rfl (.tmp 12) (.tmp 21) rfl zBa B (.slice A' n c') n (bs.map pI) (by rfl) (hown.alloc _) (yA ⟨wr.heap.size,0,none⟩) 1 1 [.int .u8 1] (by rfl) (by rfl) (dC.new wr #[.int .u8 1] 5) (by simp [qE]) (by unfold fC;omega) (by omega) (by simp;omega) (by simp) ?_;intro a3 c3 w3 hown3 hg3 hat3;have HY:=fA (Bs.snoc (by decide) (by decide) hl hown3))
    | (at_builtin;refine yC rfl (.tmp 12) (.tmp 21) rfl zBa B (.slice A' (n+1) c') (n+1) (bs.map pI) (by rfl) (hown.alloc _) (yA ⟨wr.heap.size,0,none⟩) 1 1 [.int .u8 0] (by rfl) (by rfl) (dC.new wr #[.int .u8 0] 5) (by simp [qE]) (by unfold fC;omega) (by omega) (by simp;omega) (by simp) ?_;intro a3 c3 w3 hown3 hg3 hat3;have HY:=fA (Bs.snoc (by decide) (by decide) hl hown3))
    | (at_builtin;refine yC rfl (.tmp 12) (.tmp 21) rfl zBa B (.slice A' (n+1) c') (n+1) (bs.map pI) (by rfl) (hown.alloc _) (yA ⟨wr.heap.size,0,none⟩) 1 1 [.int .u8 1] (by rfl) (by rfl) (dC.new wr #[.int .u8 1] 5) (by simp [qE]) (by unfold fC;omega) (by omega) (by simp;omega) (by simp) ?_;intro a3 c3 w3 hown3 hg3 hat3;have HY:=fA (Bs.snoc (by decide) (by decide) hl hown3)))
   all_goals
    have hc3:fD (zB A) w w3:=(hC.below (wA _ _)).grown hg3 fun x hx=>hA x (zDC hx)
    have ha3:∀ b ∈ zB a3,b ∈ zB A\/w.heap.size<=b:=fun b hb=>(wF hat3 b hb).elim (hA b) fun q=>.inr (by simp at q;omega)
    clear hown3 hg3 hat3
    go_roundw
   all_goals first | (simp [intOf];done) | exact ⟨1,a3,c3,by omega,rfl,rfl,HY.out,hc3,ha3⟩ | exact ⟨2,a3,c3,by omega,rfl,rfl,HY.out,hc3,ha3⟩
  ·obtain rfl:k=s:=by omega
   have hk1:¬ (k:Int)<S:=by omega
   go_wp2
   go_ret
   exact ⟨A',c',rfl,⟨bs,hl,hown⟩,hC,hA⟩
abbrev pO (a b:Int):Obj:=.cells #[a,b] 232
theorem zQR (M Q O c : Nat) (L : Option mB) (w : uA) (h : w.heap[M]? = yA (mO 1 1 L 1 c 2 0 Q O)) (hO : w.heap[O]? = yA (pO 1 1)) (hL : Lo w L 1) : iA prog 155 #[(M,0)] w fun e w' => e = .returned (.tuple #[]) /\ w'.heap[M]? = yA (mO 1 1 L 1 c 2 1 Q O) /\ fD [M] w w' := by
 obtain ⟨c0,c1,c2,c3,c4,c5,c6,c7,c8,c9,hlt⟩:=zQg h
 obtain ⟨o0,o1,of0,of1,olt⟩:=nJ hO
 have HL:=fA hL
 have HI:=fA h
 clear hL
 go_enter func155,ntmps155
 go_wp2
 go_loopw [2,10] (fun v i wr=>(i=.int .i64 0/\v=.slice none 0 0/\wr=w)\/(i=.int .i64 1/\∃ A ac,v=.slice A 1 ac/\wr.ownsRow w.heap.size 3 1 (.slice A 1 ac) 1 [.int .i64 1]/\Below w.heap.size w wr)) (fun _ i _=>1 - (intOf i).toNat)
 case atStart=>exact .inl ⟨rfl,rfl,rfl⟩
 case round =>
  rcases hrel with ⟨rfl,rfl,rfl⟩ | ⟨rfl,A,ac,rfl,hown,hb⟩
  ·have HNEW:Hid (dC ((wr.alloc (pO 1 1)).alloc (.cells #[.int .i64 1] 3)) (yA ⟨wr.heap.size+1,0,none⟩) [.int .i64 1]):=by
    have:=dC.new (wr.alloc (pO 1 1)) #[.int .i64 1] 3
    exact (by simpa using this:dC _ _ _)
   go_wp2_with (at_builtin;refine yC rfl (.tmp 14) (.tmp 17) rfl tN wr.heap.size (.slice none 0 0) 0 [] (by rfl) (nB _ _ _ _) (yA ⟨wr.heap.size+1,0,none⟩) 1 1 [.int .i64 1] (by rfl) (by rfl) HNEW.out (zOs [1]) (by unfold fC;omega) (by omega) (by rw [wB,wB];omega) (fun h=>by cases h) ?_;intro A1 c1 w1 hown1 hg1 hat1)
   have hb1:=Below.appended (yI wr (pO 1 1) (.cells #[.int .i64 1] 3)) (nB _ _ 3 1) hg1 (by rw [wB,wB];omega) (Nat.le_refl _)
   go_roundw
   case rel=>exact .inr ⟨rfl,A1,c1,rfl,hown1,hb1⟩
   case measure=>simp [intOf]
  ·have HC:=fA (fun W (hW:Below wr.heap.size wr W)=>zQn L A c ac W (HL.out.below (hb.trans (hW.mono hb.size))) (dC.of_own (jB hown hW)) (fun e=>xT hown e))
   have h1:=kA hb HI.out
   clear c0 c1 c2 c3 c4 c5 c6 c7 c8 c9 hlt
   obtain ⟨c0,c1,c2,c3,c4,c5,c6,c7,c8,c9,hlt⟩:=zQg h1
   have HH:=fA h1
   go_wp2
   go_region_law (first
    | (go_simp;go_at_call 229;refine (HC.out _ (xC _).drew).mono ?_;rintro e w1 ⟨rfl,hb1⟩;have hb2:=(xC wr).drew.trans hb1;have h2:=kA hb2 HH.out;have d7:=jA h2 7;have f7:=qB h2 7;have l7:=eB h2;(try go_simp)))
   all_goals refine bodyPost_end (results_none rfl _ _ _) rfl ?_
   all_goals exact ⟨rfl,zD (i:=7) h2 _,(fD.of_below (hb.trans (hb2.mono hb.size))).setCell (.inl (by simp)) _ _⟩
theorem Lo.chg {S:List Nat} {w w':uA} {A:Option mB} {n:Nat} (h:Lo w A n) (hc:fD S w w') (hA:∀ x ∈ zB A,x ∉ S):Lo w' A n:=by
 rcases h with h | ⟨h,b,o,rfl,hl,c⟩
 ·exact .inl h
 ·refine .inr ⟨h,b,o,rfl,Nat.lt_of_lt_of_le hl hc.size,?_⟩
  have e:∀ k,w'.cell? ⟨b,k,none⟩=w.cell? ⟨b,k,none⟩:=fun k=>hc.cell hl (hA b (by simp [zB]))
  rw [e,e,e,e,e,e,e]
  exact c
theorem lead1 (M Q O : Nat) (w : uA) (h : w.heap[M]? = yA (mO 1 1 none 0 0 1 0 Q O)) (hO : w.heap[O]? = yA (pO 0 0)) : iA prog 82 #[(M,0)] w fun e w' => e = .returned (.slice none 0 0) /\ ∃ L c, w'.heap[M]? = yA (mO 1 1 L 1 c 2 1 Q O) /\ Lo w' L 1 /\ (∀ x ∈ zB L, w.heap.size <= x) /\ fD [M, O] w w' := by
 have hne:M≠O:=vX h hO (by decide)
 have hM0:=zD (i:=6) h (.int .i64 2)
 have hO0:=pC (i:=6) hO (Ne.symm hne) (.int .i64 2)
 have hC0:fD [M,O] w (w.setCell ⟨M,6,none⟩ (.int .i64 2)):=(fD.refl _ _).setCell (.inl (by simp)) _ _
 have HM0:Hid ((w.setCell ⟨M,6,none⟩ (.int .i64 2)).heap[M]?=yA (mO 1 1 none 0 0 2 0 Q O)):=fA hM0
 have c6:=jA h 6
 have f6:=qB h 6
 have hlt:=eB h
 have c9:=jA HM0.out 9
 go_enter func82,ntmps82
 go_wp2
 generalize w.setCell ⟨M,6,none⟩ (.int .i64 2)=w0 at *
 clear c6 f6 c9 h hO hM0
 go_loopw [12] (fun i wr=>(i=.int .i64 0/\wr=w0)\/(i=.int .i64 1/\Hid (wr.heap[M]?=yA (mO 1 1 none 0 0 2 0 Q O))/\Hid (wr.heap[O]?=yA (pO 0 1))/\fD [M,O] w wr)) (fun i _=>1 - (intOf i).toNat)
 case atStart=>exact .inl ⟨rfl,rfl⟩
 case round =>
  rcases hrel with ⟨rfl,rfl⟩ | ⟨rfl,H1,H2,hC1⟩
  ·have c9:=jA HM0.out 9
   have hl:=eB HM0.out
   go_wp2
   go_region_law (first
    | (go_simp;go_at_call 153;refine (zOJ M 1 1 none 0 0 2 0 Q O _ (iB HM0.out) (.inl rfl)).mono ?_;rintro e w1 ⟨rfl,hb1⟩;have hb2:=(xC wr).drew.trans hb1;have d9:=jA (kA hb2 HM0.out) 9;have dl:=eB (kA hb2 HM0.out);obtain ⟨o0,o1,p0,p1,ol⟩:=nJ (kA hb2 hO0);(try go_simp)))
   all_goals go_wp2
   all_goals go_roundw
   all_goals first | (simp [intOf];done) | exact .inr ⟨rfl,fA (pC (i:=1) (pC (i:=0) (kA hb2 HM0.out) hne _) hne _),fA (zD (i:=1) (zD (i:=0) (kA hb2 hO0) (.int .i64 0)) (.int .i64 1)),((hC0.below hb2).setCell (.inl (by simp)) _ _).setCell (.inl (by simp)) _ _⟩
  ·have HPUT:=fA (mput1 M Q O wr H1.out)
   go_upto_region 8 with (go_at_call 154;refine HPUT.out.mono ?_;rintro e w1 ⟨rfl,L,c,m1,l1,n1,hC2⟩)
   have hM1:=fA m1
   have hO1:=hC2.keep H2.out (by simpa using Ne.symm hne)
   have HL1:=fA l1
   have hCa:fD [M,O] w w1:=hC1.trans hC2 (fun x hx=>.inl (by simp at hx;simp [hx]))
   have c9:=jA hM1.out 9
   have c0:=jA hM1.out 0
   have hl:=eB hM1.out
   have hwA:IntKind.i64.wrap (1 - 1)=0:=by decide
   have hwB:IntKind.i64.wrap 0=0:=by decide
   go_region_law (first
    | (go_simp;go_at_call 153;refine (zOJ M 1 1 L 1 c 2 0 Q O _ (iB hM1.out) HL1.out).mono ?_;rintro e w2 ⟨rfl,hb2⟩;have hb3:=(xC w1).drew.trans hb2;have d9:=jA (kA hb3 hM1.out) 9;have d0:=jA (kA hb3 hM1.out) 0;have dl:=eB (kA hb3 hM1.out);obtain ⟨o0,o1,p0,p1,ol⟩:=nJ (kA hb3 hO1);(try go_simp)))
   all_goals
    have hM2:=fA (pC (i:=0) (kA hb3 hM1.out) hne (.int .i64 1))
    have hO2:Hid ((w2.setCell ⟨O,0,none⟩ (.int .i64 1)).heap[O]?=yA (pO 1 1)):=fA (zD (i:=0) (kA hb3 hO1) (.int .i64 1))
    have hC3:fD [M,O] w (w2.setCell ⟨O,0,none⟩ (.int .i64 1)):=(hCa.below hb3).setCell (.inl (by simp)) _ _
    have hLO:=fA ((HL1.out.below hb3).chg (S:=[O]) ((fD.refl _ w2).setCell (b:=O) (.inl (by simp)) 0 (.int .i64 1)) (fun x hx q=>by have:=n1 x hx;have:=eB H2.out;simp at q;omega))
    generalize w2.setCell ⟨O,0,none⟩ (.int .i64 1)=w4 at *
    have HSE:=fA (zQR M Q O c L w4 hM2.out hO2.out hLO.out)
    go_wp2_with (first
     | (go_at_call 155;refine HSE.out.mono ?_;rintro e w5 ⟨rfl,m5,hC5⟩;have hM5:=fA m5)
     | (go_at_call 83;refine (zRQ M 1 1 L 1 c 2 1 Q O _ _ hM5.out).mono ?_;rintro e wx ⟨rfl,hx⟩;subst hx))
    go_ret
    exact ⟨rfl,L,c,hM5.out,(hLO.out.chg hC5 (fun x hx q=>by have:=n1 x hx;have:=eB H1.out;simp at q;omega)),fun x hx=>Nat.le_trans hC1.size (n1 x hx),hC3.trans hC5 (fun x hx=>.inl (by simp at hx;simp [hx]))⟩
end Go.Proofs.YtogbpifcmhafkaaGreat
