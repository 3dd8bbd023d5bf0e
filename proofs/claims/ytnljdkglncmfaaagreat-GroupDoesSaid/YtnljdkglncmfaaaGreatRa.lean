/-
  Part Ra of the proof.
-/
import Derived.Test.YtnljdkglncmfaaaGreatBe
import Derived.Test.YtnljdkglncmfaaaGreatEb
import Derived.Test.YtnljdkglncmfaaaGreatVoteC
import Derived.Test.YtnljdkglncmfaaaGreatBf
import Derived.Test.YtnljdkglncmfaaaGreatBx
import Derived.Test.YtnljdkglncmfaaaGreatBd
import Derived.Test.YtnljdkglncmfaaaGreatBg
namespace Go.Proofs.YtnljdkglncmfaaaGreat
open Go.RowKit
set_option linter.unusedVariables false
def OutP (P:Nat → Prop) (A:Option Addr) (n:Nat):Prop:=n≠0 → ∀ b o,A=some ⟨b,o,none⟩ → P b
theorem OutP.mono {P Q:Nat → Prop} {A:Option Addr} {n:Nat} (h:OutP P A n) (hp:∀ x,P x → Q x):OutP Q A n:=fun hn b o e=>hp b (h hn b o e)
theorem OutP.zero {P:Nat → Prop} {A:Option Addr}:OutP P A 0:=fun h=>(h rfl).elim
theorem OutP.both {P Q:Nat → Prop} {A:Option Addr} {n:Nat} (h:OutP P A n) (k:OutP Q A n):OutP (fun x=>P x∧Q x) A n:=fun hn b o e=>⟨h hn b o e,k hn b o e⟩
theorem row_lt {w:World} {A:Option Addr} {xs:List Value} {n:Nat} (h:RowAt w A xs) (h0:xs=[] → n=0):OutP (·<w.heap.size) A n:=fun hn b o e=>by
  rcases h with h | ⟨b',o',ha,hlt,_⟩
  · exact (hn (h0 h)).elim
  · rw [e] at ha;injection ha with ha;injection ha with ha;subst ha;exact hlt
theorem row_chgO {S:List Nat} {w w':World} {A:Option Addr} {xs:List Value} {n:Nat} (h:RowAt w A xs) (hc:Chg S w w') (ho:OutP (· ∉ S) A n) (h0:n=0 → xs=[]):RowAt w' A xs:=by
  by_cases hn:n=0
  · exact .inl (h0 hn)
  · rcases h with h | ⟨b,off,ha,hlt,hx⟩
    · exact .inl h
    · exact .inr ⟨b,off,ha,Nat.lt_of_lt_of_le hlt hc.size,fun i u hi=>by rw [hc.cell hlt (ho hn b off ha)];exact hx i u hi⟩
theorem ensV_zero {l:List En} (h:l.length=0):ensV l=[]:=by rw [List.eq_nil_of_length_eq_zero h];rfl
theorem ensV_eq_nil {l:List En} (h:ensV l=[]):l.length=0:=by
  cases l with
  | nil=>rfl
  | cons e l=>exact absurd h (by simp [ensV,enV])
theorem LogIn.ltO {w:World} {a:Option Addr} {cap:Nat} {l:List En} (h:LogIn w a cap l):OutP (·<w.heap.size) a l.length:=row_lt h.row ensV_eq_nil
theorem LogIn.chgO {S:List Nat} {w w':World} {a:Option Addr} {cap:Nat} {l:List En} (h:LogIn w a cap l) (hc:Chg S w w') (ho:OutP (· ∉ S) a l.length):LogIn w' a cap l:=⟨row_chgO h.row hc ho ensV_zero,h.cap,h.none_,h.max⟩
def zDE (m:Mb):List Value:=(List.range m.prog.length).map fun (k:Nat)=>.bool (decide (((k:Int)+1) ∈ m.votes))
def matV (m:Mb):List Value:=m.prog.map fun p=>.int .i64 p.1
def nxtV (m:Mb):List Value:=m.prog.map fun p=>.int .i64 p.2
structure RA where
  la:Option Addr
  lc:Nat
  va:Nat
  ma:Nat
  na:Nat
abbrev rmC (m:Mb) (a:RA):Array Value:=#[.int .i64 m.id,.int .i64 (m.prog.length:Nat),.int .i64 m.term,.int .i64 m.vote,.int .i64 0,.int .i64 0,.slice a.la m.log.length a.lc,.int .i64 m.role,.int .i64 m.settled,.slice (some ⟨a.va,0,none⟩) m.prog.length m.prog.length,.slice (some ⟨a.ma,0,none⟩) m.prog.length m.prog.length,.slice (some ⟨a.na,0,none⟩) m.prog.length m.prog.length]
def rfoot (b:Nat) (a:RA):List Nat:=[b,a.va,a.ma,a.na]
structure RMAt (w:World) (b:Nat) (a:RA) (m:Mb):Prop where
  blk:w.heap[b]?=some (.cells (rmC m a) 58)
  log:LogIn w a.la a.lc m.log
  lout:OutP (· ∉ rfoot b a) a.la m.log.length
  votes:w.heap[a.va]?=some (.cells (zDE m).toArray 4)
  mat:w.heap[a.ma]?=some (.cells (matV m).toArray 3)
  nxt:w.heap[a.na]?=some (.cells (nxtV m).toArray 3)
  vn:∀ v ∈ m.votes,1≤v∧v≤m.prog.length
  ne:a.ma≠a.na
theorem zCA {w:World} {x y:Nat} {c d:Array Value} {s t:TypeId} (hx:w.heap[x]?=some (.cells c s)) (hy:w.heap[y]?=some (.cells d t)) (h:s≠t):x≠y:=fun e=>by
  rw [e,hy] at hx
  injection hx with hx
  injection hx with _ hx
  exact h hx.symm
namespace RMAt
variable {w w':World} {b:Nat} {a:RA} {m:Mb}
theorem lt (h:RMAt w b a m):∀ x ∈ rfoot b a,x<w.heap.size:=fun x hx=>by
  simp only [rfoot,List.mem_cons,List.not_mem_nil,or_false] at hx
  rcases hx with rfl | rfl | rfl | rfl
  · exact zB h.blk
  · exact zB h.votes
  · exact zB h.mat
  · exact zB h.nxt
theorem apart (h:RMAt w b a m):a.va≠b∧a.ma≠b∧a.na≠b∧a.va≠a.ma∧a.va≠a.na∧a.ma≠a.na :=
  ⟨zCA h.votes h.blk (by decide),zCA h.mat h.blk (by decide),zCA h.nxt h.blk (by decide),zCA h.votes h.mat (by decide),zCA h.votes h.nxt (by decide),h.ne⟩
theorem chg {S:List Nat} (h:RMAt w b a m) (hc:Chg S w w') (hne:∀ x ∈ rfoot b a,x ∉ S) (ho:OutP (· ∉ S) a.la m.log.length):RMAt w' b a m :=
  ⟨hc.keep h.blk (hne _ (by simp [rfoot])),h.log.chgO hc ho,h.lout,hc.keep h.votes (hne _ (by simp [rfoot])),hc.keep h.mat (hne _ (by simp [rfoot])),hc.keep h.nxt (hne _ (by simp [rfoot])),h.vn,h.ne⟩
theorem below (h:RMAt w b a m) (hb:Below w.heap.size w w'):RMAt w' b a m:=h.chg (S:=[]) (Chg.of_below hb) (fun x _ hx=>by cases hx) (fun _ _ _ _ hx=>by cases hx)
theorem drew (h:RMAt w b a m):RMAt w.drew b a m:=⟨h.blk,h.log.below (Below.refl _ _).drew,h.lout,h.votes,h.mat,h.nxt,h.vn,h.ne⟩
theorem many (h:RMAt w b a m) (n:Nat):RMAt (w.drewN n) b a m:=⟨h.blk,h.log.below (Below.many (zK w) n),h.lout,h.votes,h.mat,h.nxt,h.vn,h.ne⟩
theorem store {m':Mb} (h:RMAt w b a m) (i:Nat) (v:Value) (hc:(rmC m a).setIfInBounds i v=rmC m' a) (h1:m'.log=m.log) (h2:m'.votes=m.votes) (h3:m'.prog=m.prog):RMAt (w.setCell ⟨b,i,none⟩ v) b a m':=by
  obtain ⟨a1,a2,a3,_⟩:=h.apart
  have hC:Chg [b] w (w.setCell ⟨b,i,none⟩ v):=(Chg.refl _ _).setCell (.inl (by simp)) i v
  have hb:w.heap[b]?=some (.cells (rmC m a) 58):=h.blk
  refine ⟨?_,by rw [h1];exact h.log.chgO hC (h.lout.mono fun x hx hc=>hx (by simp only [List.mem_singleton] at hc;simp [rfoot,hc])),by rw [h1];exact h.lout,?_,?_,?_,by rw [h2,h3];exact h.vn,h.ne⟩
  · have:=zQ (i:=i) h.blk v
    rw [hc] at this
    exact this
  · have:=zL (i:=i) h.votes a1 v
    unfold zDE at this ⊢
    rw [h2,h3];exact this
  · have:=zL (i:=i) h.mat a2 v
    unfold matV at this ⊢
    rw [h3];exact this
  · have:=zL (i:=i) h.nxt a3 v
    unfold nxtV at this ⊢
    rw [h3];exact this
end RMAt
theorem zBA {w:World} {F:Nat} {c0 c1 c2 c3 c4 c5 c6 c7 c8 c9 c10 c11:Value} {t:TypeId} (h:w.heap[F]?=some (.cells #[c0,c1,c2,c3,c4,c5,c6,c7,c8,c9,c10,c11] t)) :
    w.cell? ⟨F,0,none⟩=some c0∧w.cell? ⟨F,1,none⟩=some c1∧w.cell? ⟨F,2,none⟩=some c2∧w.cell? ⟨F,3,none⟩=some c3∧w.cell? ⟨F,4,none⟩=some c4∧w.cell? ⟨F,5,none⟩=some c5∧w.cell? ⟨F,6,none⟩=some c6∧w.cell? ⟨F,7,none⟩=some c7∧w.cell? ⟨F,8,none⟩=some c8∧w.cell? ⟨F,9,none⟩=some c9∧w.cell? ⟨F,10,none⟩=some c10∧w.cell? ⟨F,11,none⟩=some c11∧F<w.heap.size :=
  ⟨zE h 0,zE h 1,zE h 2,zE h 3,zE h 4,zE h 5,zE h 6,zE h 7,zE h 8,zE h 9,zE h 10,zE h 11,zB h⟩
theorem fro12 {w:World} {F:Nat} {cs:Array Value} {t:TypeId} (h:w.heap[F]?=some (.cells cs t)):w.frozen? ⟨F,0,none⟩=false∧w.frozen? ⟨F,1,none⟩=false∧w.frozen? ⟨F,2,none⟩=false∧w.frozen? ⟨F,3,none⟩=false∧w.frozen? ⟨F,4,none⟩=false∧w.frozen? ⟨F,5,none⟩=false∧w.frozen? ⟨F,6,none⟩=false∧w.frozen? ⟨F,7,none⟩=false∧w.frozen? ⟨F,8,none⟩=false∧w.frozen? ⟨F,9,none⟩=false∧w.frozen? ⟨F,10,none⟩=false∧w.frozen? ⟨F,11,none⟩=false :=
  ⟨zN h 0,zN h 1,zN h 2,zN h 3,zN h 4,zN h 5,zN h 6,zN h 7,zN h 8,zN h 9,zN h 10,zN h 11⟩
structure RStep (w:World) (b:Nat) (a:RA) (m:Mb) (w':World) (a':RA) (m':Mb):Prop where
  chg:Chg (rfoot b a) w w'
  sub:∀ x ∈ rfoot b a',x ∈ rfoot b a∨w.heap.size≤x
  log:∀ P:Nat → Prop,(∀ x,w.heap.size≤x → P x) → OutP P a.la m.log.length → OutP P a'.la m'.log.length
namespace RStep
variable {w w1 w2:World} {b:Nat} {a a1 a2:RA} {m m1 m2:Mb}
theorem refl (w:World) (b:Nat) (a:RA) (m:Mb):RStep w b a m w a m:=⟨Chg.refl _ _,fun x hx=>.inl hx,fun P _ h=>h⟩
theorem of_below (h:Below w.heap.size w w1):RStep w b a m w1 a m:=⟨Chg.of_below h,fun x hx=>.inl hx,fun P _ h=>h⟩
theorem trans (h:RStep w b a m w1 a1 m1) (k:RStep w1 b a1 m1 w2 a2 m2):RStep w b a m w2 a2 m2 :=
  ⟨h.chg.trans k.chg h.sub,fun x hx=>by
    rcases k.sub x hx with h1 | h1
    · exact h.sub x h1
    · exact .inr (Nat.le_trans h.chg.size h1),fun P hP hl=>k.log P (fun x hx=>hP x (Nat.le_trans h.chg.size hx)) (h.log P hP hl)⟩
theorem below (h:RStep w b a m w1 a1 m1) (k:Below w1.heap.size w1 w2):RStep w b a m w2 a1 m1:=h.trans (.of_below k)
theorem pre (k:Below w.heap.size w w1) (h:RStep w1 b a m w2 a1 m1):RStep w b a m w2 a1 m1:=(RStep.of_below k).trans h
theorem set {c:Nat} (h:RStep w b a m w1 a1 m1) (hc:c ∈ rfoot b a1) (i:Nat) (v:Value) (hl:m2.log=m1.log):RStep w b a m (w1.setCell ⟨c,i,none⟩ v) a1 m2 :=
  ⟨h.chg.setCell (h.sub c hc) i v,h.sub,fun P hP hr=>by rw [hl];exact h.log P hP hr⟩
theorem out (h:RStep w b a m w1 a1 m1) {F:Nat} (hF:F<w.heap.size) (hn:F ∉ rfoot b a):F ∉ rfoot b a1:=fun hc=>by
  rcases h.sub F hc with h1 | h1
  · exact hn h1
  · omega
theorem keep (h:RStep w b a m w1 a1 m1) {F:Nat} {o:Obj} (hF:w.heap[F]?=some o) (hn:F ∉ rfoot b a):w1.heap[F]?=some o:=h.chg.keep hF hn
end RStep
theorem RMAt.new {w:World} {b:Nat} {a:RA} {m:Mb} (h:RMAt w b a m) {F:Nat} (hF:w.heap.size≤F):F ∉ rfoot b a:=fun hc=>by have:=h.lt F hc;omega
def RetRR (m':Mb) (ms:List Ms) (b:Nat) (a:RA) (m:Mb) (w:World) (en:Ending) (w':World):Prop :=
  ∃ a' B A c sl,en=.returned (.slice A ms.length c)∧RMAt w' b a' m'∧RStep w b a m w' a' m'∧w.heap.size≤B∧(∀ x ∈ rfoot b a',x<B)∧MsAt w' B A c ms sl
def RetRU (m':Mb) (b:Nat) (a:RA) (m:Mb) (v:Value) (w:World) (en:Ending) (w':World):Prop:=∃ a',en=.returned v∧RMAt w' b a' m'∧RStep w b a m w' a' m'
theorem toArray_set {l:List Value} (i:Nat) (v:Value):l.toArray.setIfInBounds i v=(l.set i v).toArray:=by simp
theorem votesB_set {m : Mb} {k : Int} (h1 : 1 ≤ k) (h2 : k ≤ m.prog.length) {m' : Mb} (hp : m'.prog = m.prog) (hv : ∀ j : Int, j ∈ m'.votes ↔ j ∈ m.votes ∨ j = k) : zDE m' = (zDE m).set (k - 1).toNat (.bool true) := by
  refine List.ext_getElem (by simp [zDE,hp]) fun i h3 h4 => ?_
  simp only [zDE,List.getElem_map,List.getElem_range,List.getElem_set]
  by_cases hi:(k - 1).toNat=i
  · rw [if_pos hi]
    have:((i:Int)+1) ∈ m'.votes:=(hv _).2 (.inr (by omega))
    rw [decide_eq_true this]
  · rw [if_neg hi]
    have:((i:Int)+1) ∈ m'.votes ↔ ((i:Int)+1) ∈ m.votes:=by
      rw [hv]
      constructor
      · rintro (h | h)
        · exact h
        · omega
      · exact .inl
    rw [decide_eq_decide.2 this]
theorem matV_set {m:Mb} (k:Nat) (p:Int × Int) {m':Mb} (hp:m'.prog=m.prog.set k p):matV m'=(matV m).set k (.int .i64 p.1):=by unfold matV;rw [hp,List.map_set]
theorem nxtV_set {m:Mb} (k:Nat) (p:Int × Int) {m':Mb} (hp:m'.prog=m.prog.set k p):nxtV m'=(nxtV m).set k (.int .i64 p.2):=by unfold nxtV;rw [hp,List.map_set]
theorem set_same {α:Type} {l:List α} {k:Nat} {x:α} (h:l[k]?=some x):l.set k x=l:=by
  obtain ⟨hk,rfl⟩:=List.getElem?_eq_some_iff.1 h
  simp
def cntN (vs:List Int) (k:Nat):Nat:=(List.range k).countP fun (i:Nat)=>decide (((i:Int)+1) ∈ vs)
theorem cntN_succ (vs:List Int) (k:Nat):cntN vs (k+1)=cntN vs k+if ((k:Int)+1) ∈ vs then 1 else 0:=by
  unfold cntN
  rw [List.range_succ,List.countP_append,List.countP_singleton]
  simp
theorem cntN_le (vs:List Int) (k:Nat):cntN vs k≤k:=by unfold cntN;have:=List.countP_le_length (p:=fun (i:Nat)=>decide (((i:Int)+1) ∈ vs)) (l:=List.range k);simpa using this
theorem cntN_all {vs:List Int} {n:Nat} (hd:vs.Nodup) (hn:∀ v ∈ vs,1≤v∧v≤n):cntN vs n=vs.length:=by
  unfold cntN
  rw [List.countP_eq_length_filter,← List.length_map (f:=fun (i:Nat)=>((i:Int)+1))]
  refine List.Perm.length_eq ((List.perm_ext_iff_of_nodup ?_ hd).2 fun v => ?_)
  · refine List.Pairwise.map _ (fun x y (h:x≠y) => ?_) (List.Pairwise.filter _ List.nodup_range)
    intro e;exact h (by omega)
  · simp only [List.mem_map,List.mem_filter,List.mem_range,decide_eq_true_eq]
    constructor
    · rintro ⟨i,⟨_,h⟩,rfl⟩;exact h
    · intro h
      have:=hn v h
      exact ⟨(v - 1).toNat,⟨by omega,by rw [show (((v - 1).toNat:Nat):Int)+1=v by omega];exact h⟩,by omega⟩
section
variable {w:World} {b:Nat} {a:RA} {m:Mb}
set_option maxRecDepth 100000 in
set_option maxHeartbeats 3200000 in
theorem rsay_any (h:RMAt w b a m) (kind k:Int):Calls Tryz.prog 78 #[.pointer (some ⟨b,0,none⟩),.int .i64 kind,.int .i64 k] w fun e w'=>e=.returned ((m.say kind k).val none 0)∧Below w.heap.size w w':=by
  have hal:=zC w (.cells #[.int .i64 0,.int .i64 0,.int .i64 0,.int .i64 0,.int .i64 0,.int .i64 0,.int .i64 0,.bool false,.slice none 0 0] 78)
  obtain ⟨c0,c1,c2,c3,c4,c5,c6,c7,c8,c9,c10,c11,hlt⟩:=zBA (h.below hal).blk
  have g:=zG w (.cells #[.int .i64 0,.int .i64 0,.int .i64 0,.int .i64 0,.int .i64 0,.int .i64 0,.int .i64 0,.bool false,.slice none 0 0] 78)
  go_enter Tryz.func78,Tryz.ntmps78
  go_wp2
  generalize w.alloc (.cells #[.int .i64 0,.int .i64 0,.int .i64 0,.int .i64 0,.int .i64 0,.int .i64 0,.int .i64 0,.bool false,.slice none 0 0] 78)=W0 at *
  obtain ⟨d0,d1,d2,d3,d4,d5,d6,d7,d8⟩:=box9 g
  have hglt:=zB g
  obtain ⟨e0,e1,e2,e3,e4,e5,e6,e7,e8,_⟩:=fro9 g
  go_still_tail 12,(by kernel_rfl)
  show wpList _ _ _ _ _ W0.drew
  go_wp2
  obtain ⟨k0,k1,k2,k3,k4,k5,k6,k7,k8⟩:=box9 (set9_blk g (.int .i64 kind) (.int .i64 m.id) (.int .i64 k) (.int .i64 m.term) (.int .i64 0) (.int .i64 0) (.int .i64 0) (.bool false) (.slice none 0 0))
  refine bodyPost_ret (v:=(m.say kind k).val none 0) (by simp [results,Tryz.results78,go_sem,k0,k1,k2,k3,k4,k5,k6,k7,k8,Mb.say]) rfl ?_
  exact ⟨rfl,(set9_below hal (Nat.le_refl _) _ _ _ _ _ _ _ _ _).drew⟩
end
section
variable {w:World} {b:Nat} {a:RA} {m:Mb}
set_option maxRecDepth 100000 in
set_option maxHeartbeats 6400000 in
theorem raddn_at (h:RMAt w b a m) (hok:MbOk m) (j:Nat) (hj:j<m.prog.length):Calls Tryz.prog 113 #[.pointer (some ⟨b,0,none⟩),.int .i64 ((j:Int)+1)] w (RetM (m.addn ((j:Int)+1)) w):=by
  have n16:=hok.n16
  have hp:=hok.prAt ((j:Int)+1)
  have hpr:m.prAt ((j:Int)+1)=m.prog[j]'hj:=by unfold Mb.prAt;rw [show ((j:Int)+1 - 1).toNat=j by omega,List.getD_eq_getElem?_getD,List.getElem?_eq_getElem hj];rfl
  have HP1:Hid ((nxtV m).toArray[j]?=some (.int .i64 (m.prAt ((j:Int)+1)).2)):=by rw [hpr];simp [Hid,nxtV,hj]
  clear hpr
  have HS:Hid (∀ W,Below w.heap.size w W → Calls Tryz.prog 78 #[.pointer (some ⟨b,0,none⟩),.int .i64 2,.int .i64 ((j:Int)+1)] W fun e w'=>e=.returned (.agg #[.int .i64 2,.int .i64 m.id,.int .i64 ((j:Int)+1),.int .i64 m.term,.int .i64 0,.int .i64 0,.int .i64 0,.bool false,.slice none 0 0])∧Below W.heap.size W w'):=fun W hW=>rsay_any (h.below hW) 2 ((j:Int)+1)
  have HT:Hid (∀ W,Below w.heap.size w W → Calls Tryz.prog 134 #[logV 0 0 a.la m.log.length a.lc,.int .i64 ((m.prAt ((j:Int)+1)).2 - 1)] W fun e w'=>e=.returned (.tuple #[.int .i64 (m.addn ((j:Int)+1)).lterm,.bool (termF 0 0 m.log ((m.prAt ((j:Int)+1)).2 - 1)).2])∧Below W.heap.size W w'):=fun W hW=>refTerm_any 0 0 a.la a.lc m.log _ (by simp [Lit.wf,IntKind.min,IntKind.max,IntKind.bits,IntKind.signed];omega) W (h.log.below hW)
  have HF:Hid (∀ W,Below w.heap.size w W → Calls Tryz.prog 135 #[logV 0 0 a.la m.log.length a.lc,.int .i64 (m.prAt ((j:Int)+1)).2,.int .i64 8] W (zAZ 42 7 (m.addn ((j:Int)+1)).ents.length (ensV (m.addn ((j:Int)+1)).ents) W)):=fun W hW=>refFrom_any 0 0 a.la a.lc m.log _ 8 W (by omega) (h.log.below hW)
  have HX:Hid (m.addn ((j:Int)+1)=⟨2,m.id,(j:Int)+1,m.term,(m.prAt ((j:Int)+1)).2 - 1,(m.addn ((j:Int)+1)).lterm,m.settled,false,(m.addn ((j:Int)+1)).ents⟩):=rfl
  have HO:=Lib.hid h
  generalize termF 0 0 m.log ((m.prAt ((j:Int)+1)).2 - 1)=TT at HT
  obtain ⟨_,TB⟩:=TT
  simp only at HT
  generalize hLT:(m.addn ((j:Int)+1)).lterm=LT at HT HX
  generalize hE:(m.addn ((j:Int)+1)).ents=E at HF HX
  generalize m.prAt ((j:Int)+1)=P at HT HF HX HP1 hp
  clear hLT hE
  obtain ⟨P1,P2⟩:=P
  simp only at HT HF HX HP1 hp
  obtain ⟨hp1,hp2,hp3,hp4⟩:=hp
  have hal:=zC w (.cells #[.int .i64 0,.int .i64 0,.int .i64 0,.int .i64 0,.int .i64 0,.int .i64 0,.int .i64 0,.bool false,.slice none 0 0] 78)
  have g0:=zG w (.cells #[.int .i64 0,.int .i64 0,.int .i64 0,.int .i64 0,.int .i64 0,.int .i64 0,.int .i64 0,.bool false,.slice none 0 0] 78)
  have hk0:(0:Int)≤(j:Int):=by omega
  have hk4:(j:Int)<m.prog.length:=by omega
  have hk5:(j:Int)+1≤16:=by omega
  go_enter Tryz.func113,Tryz.ntmps113
  go_wp2_with (go_at_call 78;refine (HS.out _ hal).mono ?_;rintro e w1 ⟨rfl,hb1⟩;have hw1:=hal.trans (hb1.mono hal.size);have G0:=zA hb1 g0;have H1:=HO.out.below (hw1.trans ((zC w1 (.cells #[.int .i64 2,.int .i64 m.id,.int .i64 ((j:Int)+1),.int .i64 m.term,.int .i64 0,.int .i64 0,.int .i64 0,.bool false,.slice none 0 0] 78)).mono hw1.size));obtain ⟨c0,c1,c2,c3,c4,c5,c6,c7,c8,c9,c10,c11,hlt⟩:=zBA H1.blk;have d1:=(zE H1.nxt j).trans HP1.out;have dl:=zB H1.nxt)
  clear c0 c1 c2 c3 c4 c5 c6 c7 c8 c9 c10 c11 hlt d1 dl H1
  have hal1:=zC w1 (.cells #[.int .i64 2,.int .i64 m.id,.int .i64 ((j:Int)+1),.int .i64 m.term,.int .i64 (P2 - 1),.int .i64 0,.int .i64 0,.bool false,.slice none 0 0] 78)
  have hw2:=hw1.trans (hal1.mono hw1.size)
  have G1:=zG w1 (.cells #[.int .i64 2,.int .i64 m.id,.int .i64 ((j:Int)+1),.int .i64 m.term,.int .i64 (P2 - 1),.int .i64 0,.int .i64 0,.bool false,.slice none 0 0] 78)
  have G0':=zA hal1 G0
  have hF1:w.heap.size<w1.heap.size:=zB G0
  generalize w1.alloc (.cells #[.int .i64 2,.int .i64 m.id,.int .i64 ((j:Int)+1),.int .i64 m.term,.int .i64 (P2 - 1),.int .i64 0,.int .i64 0,.bool false,.slice none 0 0] 78)=W1 at *
  generalize w1.heap.size=F1 at *
  have H2:=HO.out.below hw2
  obtain ⟨c0,c1,c2,c3,c4,c5,c6,c7,c8,c9,c10,c11,hlt⟩:=zBA H2.blk
  obtain ⟨fr0,fr1,fr2,fr3,fr4,fr5,fr6,fr7,fr8,fr9⟩:=fro9 G1
  obtain ⟨x0,x1,x2,x3,x4,x5,x6,x7,x8⟩:=box9 G1
  have flt:=zB G1
  have HT2:=Lib.hid (HT.out W1.drew hw2.drew)
  go_region_held3 (fun W=>W.cell? ⟨b,4,none⟩=some (.int .i64 0)∧W.cell? ⟨b,5,none⟩=some (.int .i64 0)∧W.cell? ⟨b,6,none⟩=some (.slice a.la m.log.length a.lc)∧W.cell? ⟨F1,4,none⟩=some (.int .i64 (P2 - 1))) (first | exact ⟨c4,c5,c6,x4⟩ | exact ⟨e4,e5,e6,y4⟩ | go_keep) ((go_at_call 134;refine HT2.out.mono ?_;rintro e w3 ⟨rfl,hb3⟩;have hw3:=hw2.drew.trans (hb3.mono hw2.size);have G3:=zA hb3 (zM G1);have G03:=zA hb3 (zM G0');have H3:=HO.out.below hw3;obtain ⟨e0,e1,e2,e3,e4,e5,e6,e7,e8,e9,e10,e11,elt⟩:=zBA H3.blk;obtain ⟨y0,y1,y2,y3,y4,y5,y6,y7,y8⟩:=box9 G3;obtain ⟨fs0,fs1,fs2,fs3,fs4,fs5,fs6,fs7,fs8,fs9⟩:=fro9 G3;have flt3:=zB G3))
  have d3:=(zE H3.nxt j).trans HP1.out
  have dl3:=zB H3.nxt
  go_wp2
  clear c0 c1 c2 c3 c4 c5 c6 c7 c8 c9 c10 c11 hlt fr0 fr1 fr2 fr3 fr4 fr5 fr6 fr7 fr8 fr9 x0 x1 x2 x3 x4 x5 x6 x7 x8 flt e0 e1 e2 e3 e4 e5 e6 e7 e8 e9 e10 e11 elt y0 y1 y2 y3 y4 y5 y6 y7 y8 fs0 fs1 fs2 fs3 fs4 fs5 fs6 fs7 fs8 fs9 flt3 d3 dl3
  have hw4:Below w.heap.size w ((w3.setCell ⟨F1,5,none⟩ (.int .i64 LT)).setCell ⟨F1,6,none⟩ (.int .i64 m.settled)):=(hw3.setCell (p:=⟨F1,5,none⟩) (Nat.le_of_lt hF1) _).setCell (p:=⟨F1,6,none⟩) (Nat.le_of_lt hF1) _
  have G4:((w3.setCell ⟨F1,5,none⟩ (.int .i64 LT)).setCell ⟨F1,6,none⟩ (.int .i64 m.settled)).heap[F1]?=some (.cells #[.int .i64 2,.int .i64 m.id,.int .i64 ((j:Int)+1),.int .i64 m.term,.int .i64 (P2 - 1),.int .i64 LT,.int .i64 m.settled,.bool false,.slice none 0 0] 78):=zQ (i:=6) (zQ (i:=5) G3 _) _
  have G04:=zL (i:=6) (zL (i:=5) G03 (show w.heap.size≠F1 by omega) (.int .i64 LT)) (show w.heap.size≠F1 by omega) (.int .i64 m.settled)
  generalize (w3.setCell ⟨F1,5,none⟩ (.int .i64 LT)).setCell ⟨F1,6,none⟩ (.int .i64 m.settled)=W4 at *
  have H4:=HO.out.below hw4
  obtain ⟨c0,c1,c2,c3,c4,c5,c6,c7,c8,c9,c10,c11,hlt⟩:=zBA H4.blk
  have d4:=(zE H4.nxt j).trans HP1.out
  have dl4:=zB H4.nxt
  have hwj:IntKind.i64.wrap (j:Int)=(j:Int):=zS (by omega) (by omega)
  have HF4:=Lib.hid (HF.out _ hw4.drew)
  go_region_law (first
    | (go_simp;go_at_call 135;refine HF4.out.mono ?_;rintro e w5 ⟨a5,c5',rfl,own5,hb5⟩;have hw5:=hw4.drew.trans (hb5.mono hw4.size);have G5:=zA hb5 (zM G4);have G05:=zA hb5 (zM G04);obtain ⟨fr0,fr1,fr2,fr3,fr4,fr5,fr6,fr7,fr8,fr9⟩:=fro9 G5;obtain ⟨x0,x1,x2,x3,x4,x5,x6,x7,x8⟩:=box9 G5;obtain ⟨fs0,fs1,fs2,fs3,fs4,fs5,fs6,fs7,fs8,fs9⟩:=fro9 G05;obtain ⟨y0,y1,y2,y3,y4,y5,y6,y7,y8⟩:=box9 G05;have flt:=zB G5;have flt0:=zB G05;(try go_simp)))
  all_goals go_wp2
  all_goals (
    obtain ⟨k0,k1,k2,k3,k4,k5,k6,k7,k8⟩:=box9 (set9_blk (zL (i:=8) (G:=F1) G05 (by omega) (.slice a5 E.length c5')) (.int .i64 2) (.int .i64 m.id) (.int .i64 ((j:Int)+1)) (.int .i64 m.term) (.int .i64 (P2 - 1)) (.int .i64 LT) (.int .i64 m.settled) (.bool false) (.slice a5 E.length c5'))
    refine bodyPost_ret (v:=.agg #[.int .i64 2,.int .i64 m.id,.int .i64 ((j:Int)+1),.int .i64 m.term,.int .i64 (P2 - 1),.int .i64 LT,.int .i64 m.settled,.bool false,.slice a5 E.length c5']) (by simp [results,Tryz.results113,go_sem,k0,k1,k2,k3,k4,k5,k6,k7,k8]) rfl ?_
    rw [HX.out]
    exact ⟨a5,c5',rfl,zW (own_set9 (ownsRow_setCell_below own5 (a:=⟨F1,8,none⟩) (zB G4) _) (zB G04) _ _ _ _ _ _ _ _ _) hw4.size,set9_below (hw5.setCell (p:=⟨F1,8,none⟩) (Nat.le_of_lt hF1) _) (Nat.le_refl _) _ _ _ _ _ _ _ _ _⟩)
end
theorem commit_up {es : List En} (hm : mayL 0 0 es = true) {term settled M : Int} (hs0 : 0 ≤ settled) (i : Int) : (((zCI 0 0 es i).2 = true ∧ (zCI 0 0 es i).1 = term ∧ settled < i ∧ i ≤ M) → zAR 0 0 es term settled (min i M) = i) ∧ (¬ ((zCI 0 0 es i).2 = true ∧ (zCI 0 0 es i).1 = term ∧ settled < i ∧ i ≤ M) → i ≤ es.length → zAR 0 0 es term settled (min i M) = zAR 0 0 es term settled (min (i - 1) M)) := by
  by_cases h0:i<0
  · rw [termL_out (.inl h0)]
    refine ⟨fun h=>by simp at h,fun _ _ => ?_⟩
    rw [zDA (by omega),zDA (by omega)]
  by_cases h1:(es.length:Int)<i
  · refine ⟨fun h => ?_,fun _ h=>by omega⟩
    rw [termL_out (.inr (by omega))] at h
    simp at h
  have ht:=termL_at (b:=0) (t:=0) (es:=es) (i:=i) i.toNat (by omega) (by omega)
  rw [ht]
  refine ⟨fun ⟨_,h2,h3,h4⟩ => ?_,fun hn _ => ?_⟩
  · rw [Int.min_eq_left h4]
    exact commitAt_hit (by omega) h3 (by simpa using h2)
  · by_cases h4:i≤M
    · rw [Int.min_eq_left h4,Int.min_eq_left (by omega)]
      by_cases h5:settled<i
      · exact commitAt_next (by omega) h5 (fun h=>hn ⟨rfl,by simpa using h,h5,h4⟩)
      · rw [commitAt_done (by omega) (by omega)]
        by_cases h6:i=0
        · rw [zDA (by omega)]
        · rw [commitAt_done (by omega) (by omega)]
    · rw [Int.min_eq_right (by omega),Int.min_eq_right (by omega)]
set_option maxRecDepth 100000 in
set_option maxHeartbeats 6400000 in
theorem rcommit_any (a : Option Addr) (cap : Nat) (es : List En) (am : Option Addr) (cm : Nat) (ms : List Int) (term settled : Int) (w : World) (hl : LogIn w a cap es) (hmay : mayL 0 0 es = true) (hm : CellsI w am ms) (hml : ms.length ≤ 1000000) (hs0 : 0 ≤ settled) (hs1 : settled ≤ 1000000) (hM : -9223372036854775808 ≤ mostL ms ∧ mostL ms ≤ 9223372036854775807) :
    Calls Tryz.prog 131 #[logV 0 0 a es.length cap,.slice am ms.length cm,.int .i64 term,.int .i64 settled] w fun e w'=>e=.returned (.int .i64 (zCW 0 0 es ms term settled))∧Below w.heap.size w w':=by
  have h64:es.length≤64:=(zAB hmay).2.2.2.2.2.1
  have h64i:(es.length:Int)≤64:=by omega
  have HLa:Hid (∀ W,Below w.heap.size w W → Calls Tryz.prog 75 #[logV 0 0 a es.length cap] W fun e w'=>e=.returned (.tuple #[.int .i64 (es.length:Int),.int .i64 (endT es 0)])∧Below W.heap.size W w'):=fun W h=>by
    have:=zBX 0 0 a cap es W (hl.below h)
    unfold lastF at this
    rw [zBQ hmay] at this
    simpa using this
  have HMo:Hid (∀ W,Below w.heap.size w W → Calls Tryz.prog 147 #[.slice am ms.length cm] W fun e w'=>e=.returned (.int .i64 (mostL ms))∧W=w'):=fun W h=>refMost_any am cm ms W (hm.below h) hml
  have HTe:Hid (∀ W i,Below w.heap.size w W → -64≤i → i≤64 → Calls Tryz.prog 134 #[logV 0 0 a es.length cap,.int .i64 i] W fun e w'=>e=.returned (.tuple #[.int .i64 (zCI 0 0 es i).1,.bool (zCI 0 0 es i).2])∧Below W.heap.size W w'):=fun W i h h1 h2=>by
    have:=refTerm_any 0 0 a cap es i (by simp [Lit.wf,IntKind.min,IntKind.max,IntKind.bits,IntKind.signed];omega) W (hl.below h)
    unfold termF at this
    rwa [zBQ hmay] at this
  have hC:zCW 0 0 es ms term settled=zAR 0 0 es term settled (min (es.length:Int) (mostL ms)):=by
    unfold zCW
    rw [zBQ hmay]
    simp
  rw [hC]
  clear hC hm hl
  generalize mostL ms=M at *
  generalize ms.length=nm at *
  have hmw:=hM
  go_enter Tryz.func131,Tryz.ntmps131
  go_wp2_with (first
      | (go_at_call 75;refine (HLa.out _ (zC _ _)).mono ?_;rintro e w1 ⟨rfl,hb1⟩;have hw0:=zJ hb1;have g0:=zA hb1 (zG w _);obtain ⟨hc0,hc1,hc2,hf0,hf1,hf2,hlt0⟩:=box3 g0)
      | (go_at_call 147;refine (HMo.out _ hw0).mono ?_;rintro e wx ⟨rfl,hwx⟩;subst hwx))
  have HST:Hid (∀ i:Int,i≤64 → (((zCI 0 0 es i).2=true∧(zCI 0 0 es i).1=term∧settled<i∧i≤M) → zAR 0 0 es term settled (min i M)=i)∧(¬ ((zCI 0 0 es i).2=true∧(zCI 0 0 es i).1=term∧settled<i∧i≤M) → i≤es.length → zAR 0 0 es term settled (min i M)=zAR 0 0 es term settled (min (i - 1) M))):=fun i hi=>commit_up hmay hs0 i
  have HLO:Hid (zAR 0 0 es term settled (min ((es.length:Int) - 64 - 1) M)=settled):=zDA (by omega)
  clear hmay
  go_loopw [12,13] (fun o i wr=>∃ (j:Int),-64≤j∧j≤es.length+1∧i=.int .i64 j∧o=.int .i64 (zAR 0 0 es term settled (min (j - 1) M))∧wr.heap[w.heap.size]?=some (.cells #[.int .i64 0,.int .i64 0,.slice a es.length cap] 55)∧Below w.heap.size w wr) (fun _ i _=>(es.length+1 - intOf i).toNat)
  case atStart=>exact ⟨(es.length:Int) - 64,by omega,by omega,rfl,by rw [HLO.out],g0,hw0⟩
  case round =>
    clear hc0 hc1 hc2 hf0 hf1 hf2 hlt0 g0 hw0
    obtain ⟨j,hj0,hj1,rfl,rfl,g0,hw0⟩:=hrel
    obtain ⟨hc0,hc1,hc2,hf0,hf1,hf2,hlt0⟩:=box3 g0
    by_cases hlt:j≤es.length
    · have HT := Lib.hid (HTe.out wr j hw0 hj0 (by omega))
      have HS:=Lib.hid (HST.out j (by omega))
      generalize zCI 0 0 es j=T at HT HS
      obtain ⟨t1,t2⟩:=T
      simp only at HT HS
      generalize zAR 0 0 es term settled (min (j - 1) M)=o at HS
      generalize hv:zAR 0 0 es term settled (min j M)=v at HS
      have hv2:zAR 0 0 es term settled (min (j+1 - 1) M)=v:=by rw [← hv,show j+1 - 1=j by omega]
      have HV:=Lib.hid hv2
      clear hv hv2
      cases t2 with
      | false =>
        have HE:=Lib.hid (HS.out.2 (by simp) hlt)
        go_wp2_with (go_at_call 134;refine HT.out.mono ?_;rintro e w1 ⟨rfl,hb1⟩;have g1:=zA hb1 g0;have hw1:=hw0.trans (hb1.mono hw0.size))
        exact ⟨⟨j+1,by omega,by omega,rfl,by rw [HV.out,HE.out],g1,hw1⟩,by simp [intOf];omega⟩
      | true =>
        by_cases hq1:t1=term
        · subst hq1
          by_cases hq2:settled<j
          · by_cases hq3:j≤M
            · have HE:=Lib.hid (HS.out.1 ⟨rfl,rfl,hq2,hq3⟩)
              go_wp2_with (go_at_call 134;refine HT.out.mono ?_;rintro e w1 ⟨rfl,hb1⟩;have g1:=zA hb1 g0;have hw1:=hw0.trans (hb1.mono hw0.size))
              exact ⟨⟨j+1,by omega,by omega,rfl,by rw [HV.out,HE.out],g1,hw1⟩,by simp [intOf];omega⟩
            · have HE:=Lib.hid (HS.out.2 (fun h=>hq3 h.2.2.2) hlt)
              go_wp2_with (go_at_call 134;refine HT.out.mono ?_;rintro e w1 ⟨rfl,hb1⟩;have g1:=zA hb1 g0;have hw1:=hw0.trans (hb1.mono hw0.size))
              exact ⟨⟨j+1,by omega,by omega,rfl,by rw [HV.out,HE.out],g1,hw1⟩,by simp [intOf];omega⟩
          · have HE:=Lib.hid (HS.out.2 (fun h=>hq2 h.2.2.1) hlt)
            go_wp2_with (go_at_call 134;refine HT.out.mono ?_;rintro e w1 ⟨rfl,hb1⟩;have g1:=zA hb1 g0;have hw1:=hw0.trans (hb1.mono hw0.size))
            exact ⟨⟨j+1,by omega,by omega,rfl,by rw [HV.out,HE.out],g1,hw1⟩,by simp [intOf];omega⟩
        · have HE:=Lib.hid (HS.out.2 (fun h=>hq1 h.2.1) hlt)
          have hq4:(t1 == term)=false:=by rw [beq_eq_false_iff_ne];exact hq1
          clear hq1
          go_wp2_with (go_at_call 134;refine HT.out.mono ?_;rintro e w1 ⟨rfl,hb1⟩;have g1:=zA hb1 g0;have hw1:=hw0.trans (hb1.mono hw0.size))
          exact ⟨⟨j+1,by omega,by omega,rfl,by rw [HV.out,HE.out],g1,hw1⟩,by simp [intOf];omega⟩
    · have hje:j - 1=es.length:=by omega
      rw [hje]
      go_wp2
      go_ret
      exact ⟨rfl,hw0⟩
section
variable {w:World} {b:Nat} {a:RA} {m:Mb}
set_option maxRecDepth 100000 in
set_option maxHeartbeats 6400000 in
theorem radds_any (h : RMAt w b a m) (hok : MbOk m) : Calls Tryz.prog 82 #[.pointer (some ⟨b, 0, none⟩)] w (RetMs m.adds w) := by
  have n16:=hok.n16
  have HFN:Hid (∀ W,Below w.heap.size w W → ∀ j:Nat,j<m.prog.length → Calls Tryz.prog 113 #[.pointer (some ⟨b,0,none⟩),.int .i64 ((j:Int)+1)] W (RetM (m.addn ((j:Int)+1)) W)):=fun W hW j hj=>raddn_at (h.below hW) hok j hj
  have HO:=Lib.hid h
  obtain ⟨c0,c1,c2,c3,c4,c5,c6,c7,c8,c9,c10,c11,hlt⟩:=zBA h.blk
  unfold Mb.adds
  generalize m.addn=f at HFN ⊢
  go_enter Tryz.func82,Tryz.ntmps82
  go_wp2
  clear c0 c1 c2 c3 c4 c5 c6 c7 c8 c9 c10 c11 hlt
  go_loopw [3,4] (fun v i wr=>∃ (k:Nat) (A:Option Addr) (c:Nat) (sl:List (Option Addr × Nat)),k≤m.prog.length∧i=.int .i64 ((k:Int)+1)∧v=.slice A (Mb.toAll m.id f k).length c∧MsAt wr w.heap.size A c (Mb.toAll m.id f k) sl∧Below w.heap.size w wr) (fun _ i _=>m.prog.length+1 - (intOf i).toNat)
  case atStart=>exact ⟨0,none,0,[],by omega,rfl,rfl,MsAt.nil _ _,zK _⟩
  case round =>
    obtain ⟨k,A,c,sl,hk,rfl,rfl,hms,hb⟩:=hrel
    have H1:=HO.out.below hb
    obtain ⟨c0,c1,c2,c3,c4,c5,c6,c7,c8,c9,c10,c11,hlt⟩:=zBA H1.blk
    by_cases hlt:k<m.prog.length
    · have hk0:(0:Int)≤(k:Int):=by omega
      have hk1:(k:Int)+1≤(m.prog.length:Int):=by omega
      have hk2:(k:Int)≤16:=by omega
      have hw2:=zS (x:=(k:Int)+1+1) (by omega) (by omega)
      by_cases hid:(k:Int)+1=m.id
      · have hid1:(((k:Int)+1) != m.id)=false:=by rw [hid];simp
        have HT:Hid (Mb.toAll m.id f (k+1)=Mb.toAll m.id f k):=by rw [Hid,Mb.toAll,if_pos hid,List.append_nil]
        clear hid
        go_wp2
        exact ⟨⟨k+1,A,c,sl,by omega,by go_num,by rw [HT.out],by rw [HT.out];exact hms,hb⟩,by simp [intOf];omega⟩
      · have hid1:(((k:Int)+1) != m.id)=true:=by simpa using hid
        have HT:Hid (Mb.toAll m.id f (k+1)=Mb.toAll m.id f k ++ [f ((k:Int)+1)]):=by rw [Hid,Mb.toAll,if_neg hid]
        have HFK:=Lib.hid (HFN.out wr hb k hlt)
        have HL:Hid ((Mb.toAll m.id f k).length≤k):=toAll_le _ _ _
        have hL1:(Mb.toAll m.id f k).length≤16:=by have:=HL.out;omega
        clear hid
        generalize f ((k:Int)+1)=x at HT HFK
        generalize Mb.toAll m.id f k=ms at HT HL hL1 hms
        have hs:=hb.size
        go_wp2_with (first
          | (go_at_call 113;refine HFK.out.mono ?_;rintro e w1 ⟨a1,cx1,rfl,own1,hb1⟩;have hms1:=hms.below hb1;have hwA:=hb.trans (hb1.mono hs);have HNEW:Hid (RowAt (w1.alloc (.cells #[.int .i64 x.kind,.int .i64 x.frm,.int .i64 x.dst,.int .i64 x.term,.int .i64 x.index,.int .i64 x.lterm,.int .i64 x.commit,.bool x.yes,.slice a1 x.ents.length cx1] 78)) (some ⟨w1.heap.size,0,none⟩) (x.cells a1 cx1)):=RowAt.new w1 #[.int .i64 x.kind,.int .i64 x.frm,.int .i64 x.dst,.int .i64 x.term,.int .i64 x.index,.int .i64 x.lterm,.int .i64 x.commit,.bool x.yes,.slice a1 x.ents.length cx1] 78;have hs1:=hwA.size)
          | (at_builtin;refine zF rfl (.tmp 19) (.tmp 23) rfl elemM w.heap.size _ ms.length _ (by rfl) (zD hms1.own (zC w1 _)) (some ⟨w1.heap.size,0,none⟩) 1 1 (x.cells a1 cx1) (by rfl) (by rfl) HNEW.out (msC_one x a1 cx1) (by unfold maxLen;omega) (by omega) (by simp;omega) (fun h=>by cases h) ?_;intro A2 c2' w2 hown2 hg2 hat2;have hb2:=Below.appended (hwA.alloc hs1 (.cells #[.int .i64 x.kind,.int .i64 x.frm,.int .i64 x.dst,.int .i64 x.term,.int .i64 x.index,.int .i64 x.lterm,.int .i64 x.commit,.bool x.yes,.slice a1 x.ents.length cx1] 78)) (zD hms1.own (zC w1 _)) hg2 (by simp;omega) (Nat.le_refl _)))
        have hms2:MsAt w2 w.heap.size A2 c2' (ms ++ [x]) (sl ++ [(a1,cx1)]):=MsAt.snoc hms1 (zW own1 hs) (zC w1 _) hown2 hg2
        exact ⟨⟨k+1,A2,c2',sl ++ [(a1,cx1)],by omega,by go_num,by rw [HT.out];simp,by rw [HT.out];exact hms2,hb2⟩,by simp [intOf];omega⟩
    · have hk':k=m.prog.length:=by omega
      subst hk'
      have hk1:¬ (m.prog.length:Int)+1≤(m.prog.length:Int):=by omega
      go_wp2
      go_ret
      exact ⟨A,c,sl,rfl,hms,hb⟩
end
section
variable {w:World} {b:Nat} {a:RA} {m:Mb}
abbrev relW (w:World) (b:Nat) (A:Option Addr) (n c:Nat):World:=((w.setCell ⟨b,4,none⟩ (.int .i64 0)).setCell ⟨b,5,none⟩ (.int .i64 0)).setCell ⟨b,6,none⟩ (.slice A n c)
theorem RMAt.relog {w3:World} (h:RMAt w b a m) (hb:Below w.heap.size w w3) {l:List En} {A:Option Addr} {c:Nat} (hl:LogIn w3 A c l) (ho:OutP (w.heap.size≤·) A l.length) :
    RMAt (relW w3 b A l.length c) b { a with la:=A,lc:=c } { m with log:=l }∧RStep w b a m (relW w3 b A l.length c) { a with la:=A,lc:=c } { m with log:=l }:=by
  have H:=h.below hb
  obtain ⟨a1,a2,a3,_⟩:=H.apart
  have hC:Chg [b] w3 (relW w3 b A l.length c):=(((Chg.refl _ _).setCell (.inl (by simp)) 4 _).setCell (.inl (by simp)) 5 _).setCell (.inl (by simp)) 6 _
  have hlt:=h.lt
  have hout:OutP (· ∉ rfoot b a) A l.length:=ho.mono fun x hx hc=>by have:=hlt x hc;omega
  refine ⟨⟨?_,hl.chgO hC (hout.mono fun x hx hc=>hx (by simp only [List.mem_singleton] at hc;simp [rfoot,hc])),hout,?_,?_,?_,h.vn,h.ne⟩,⟨(Chg.of_below hb).trans (T:=[b]) hC (fun x hx=>by simp only [List.mem_singleton] at hx;simp [rfoot,hx]),fun x hx=>.inl hx,fun P hP _=>ho.mono fun x hx=>hP x hx⟩⟩
  · exact zQ (i:=6) (zQ (i:=5) (zQ (i:=4) H.blk _) _) _
  · exact zL (zL (zL H.votes a1 _) a1 _) a1 _
  · exact zL (zL (zL H.mat a2 _) a2 _) a2 _
  · exact zL (zL (zL H.nxt a3 _) a3 _) a3 _
set_option maxRecDepth 100000 in
set_option maxHeartbeats 6400000 in
theorem rput_any (h:RMAt w b a m) (c:Cm) (hl:m.log.length<64):Calls Tryz.prog 110 #[.pointer (some ⟨b,0,none⟩),cmV c] w (RetRU (m.put c) b a m (.tuple #[]) w):=by
  rw [show m.put c={ m with log:=m.log ++ [(m.term,c)] } from if_neg (by omega)]
  obtain ⟨x0,x1,x2,x3,x4,x5⟩:=c
  have hal:=zC w (.cells #[.int .i64 x0,.int .i64 x1,.int .i64 x2,.int .i64 x3,.int .i64 x4,.int .i64 x5] 40)
  have gB:=zG w (.cells #[.int .i64 x0,.int .i64 x1,.int .i64 x2,.int .i64 x3,.int .i64 x4,.int .i64 x5] 40)
  have H1:=h.below hal
  have hnz:a.la=none → m.log.length=0:=h.log.none_
  have hel:(ensV m.log).length=m.log.length * 7:=zAQ _
  have HEL:=Lib.hid hel
  have HNZ:=Lib.hid hnz
  clear hel hnz
  go_enter Tryz.func110,Tryz.ntmps110
  have hz:w.heap.size<(w.alloc (.cells #[.int .i64 x0,.int .i64 x1,.int .i64 x2,.int .i64 x3,.int .i64 x4,.int .i64 x5] 40)).heap.size:=zB gB
  obtain ⟨c0,c1,c2,c3,c4,c5,c6,c7,c8,c9,c10,c11,hlt⟩:=zBA H1.blk
  have HL1:=Lib.hid H1.log
  go_wp2_with (first
    | (at_builtin;refine zF rfl (.const (.slice none 0 0)) (.tmp 9) rfl zCX (w.alloc (.cells #[.int .i64 x0,.int .i64 x1,.int .i64 x2,.int .i64 x3,.int .i64 x4,.int .i64 x5] 40)).heap.size (.slice none 0 0) 0 [] (by rfl) (World.ownsRow_nil _ _ _ _) a.la m.log.length a.lc (ensV m.log) (by rfl) HEL.out (HL1.out.row) (zCB _) (by unfold maxLen;omega) (by omega) (Nat.le_refl _) HNZ.out ?_;intro A2 c2' w2 hown2 hg2 hat2;simp only [Nat.zero_add,List.nil_append] at hown2;have hb2:Below (w.alloc (.cells #[.int .i64 x0,.int .i64 x1,.int .i64 x2,.int .i64 x3,.int .i64 x4,.int .i64 x5] 40)).heap.size (w.alloc (.cells #[.int .i64 x0,.int .i64 x1,.int .i64 x2,.int .i64 x3,.int .i64 x4,.int .i64 x5] 40)) w2:=(zK _).grown hg2 (Nat.le_refl _) (fun k hk=>by simp [Value.ownBlock] at hk)))
  have H2:=H1.below hb2
  have gB2:=zA hb2 gB
  have hw2:Below w.heap.size w w2:=hal.trans (hb2.mono hal.size)
  clear c0 c1 c2 c3 c4 c5 c6 c7 c8 c9 c10 c11 hlt hb2 hal gB H1 HL1
  have hz2:w.heap.size<w2.heap.size:=zB gB2
  obtain ⟨c0,c1,c2,c3,c4,c5,c6,c7,c8,c9,c10,c11,hlt⟩:=zBA H2.blk
  obtain ⟨y0,y1,y2,y3,y4,y5,yl⟩:w2.cell? ⟨w.heap.size,0,none⟩=some (.int .i64 x0)∧w2.cell? ⟨w.heap.size,1,none⟩=some (.int .i64 x1)∧w2.cell? ⟨w.heap.size,2,none⟩=some (.int .i64 x2)∧w2.cell? ⟨w.heap.size,3,none⟩=some (.int .i64 x3)∧w2.cell? ⟨w.heap.size,4,none⟩=some (.int .i64 x4)∧w2.cell? ⟨w.heap.size,5,none⟩=some (.int .i64 x5)∧w.heap.size<w2.heap.size:=⟨zE gB2 0,zE gB2 1,zE gB2 2,zE gB2 3,zE gB2 4,zE gB2 5,zB gB2⟩
  have hb0:w.heap.size≤(w.alloc (.cells #[.int .i64 x0,.int .i64 x1,.int .i64 x2,.int .i64 x3,.int .i64 x4,.int .i64 x5] 40)).heap.size:=Nat.le_of_lt hz
  have own2:=zW hown2 hb0
  clear hown2 hz
  have hb3:=(zK w2).drew.alloc (Nat.le_refl _) (.cells (enV (m.term,x0,x1,x2,x3,x4,x5)).toArray 42)
  have hneb:(Value.slice A2 m.log.length c2').ownBlock≠some b:=fun e=>by have:=(own2.lt _ e).1;have:=zB h.blk;omega
  have OWN3:=Lib.hid (zD own2 hb3)
  go_region_law (first
    | (refine zAV rfl (.tmp 11) (.tmp 19) rfl zCX w.heap.size (.slice A2 m.log.length c2') m.log.length (ensV m.log) (by rfl) OWN3.out (some ⟨w2.heap.size,0,none⟩) 1 1 (enV (m.term,x0,x1,x2,x3,x4,x5)) (by rfl) (by rfl) (RowAt.new w2.drew _ _) ?_ (by unfold maxLen;omega) (by omega) (by simp;omega) (fun h=>by cases h) ?_;(exact zCB [(m.term,x0,x1,x2,x3,x4,x5)]);intro A3 c3' w3 hown3 hg3 hat3;have G3:=zY hg3 (zH (zM H2.blk) (.cells (enV (m.term,x0,x1,x2,x3,x4,x5)).toArray 42)) hneb;obtain ⟨d0,d1,d2,d3,d4,d5,d6,d7,d8,d9,d10,d11,dlt⟩:=zBA G3;obtain ⟨fr0,fr1,fr2,fr3,fr4,fr5,fr6,fr7,fr8,fr9,fr10,fr11⟩:=fro12 G3;(try go_simp)))
  all_goals go_wp2
  all_goals (
    refine bodyPost_end (results_none rfl _ _ _) rfl ?_
    have hb3':Below w.heap.size w w3:=Below.appended (hw2.trans (hb3.mono hw2.size)) OWN3.out hg3 (by simp;omega) (Nat.le_refl _)
    have hll:(m.log ++ [(m.term,x0,x1,x2,x3,x4,x5)]).length=m.log.length+1:=by simp
    have own4:w3.ownsRow w.heap.size 42 7 (.slice A3 (m.log ++ [(m.term,x0,x1,x2,x3,x4,x5)]).length c3') (m.log ++ [(m.term,x0,x1,x2,x3,x4,x5)]).length (ensV (m.log ++ [(m.term,x0,x1,x2,x3,x4,x5)])):=by
      rw [hll,zBP,show ensV [(m.term,x0,x1,x2,x3,x4,x5)]=enV (m.term,x0,x1,x2,x3,x4,x5) by simp [ensV]]
      exact hown3
    obtain ⟨M4,S4⟩:=h.relog hb3' (LogIn.of_own own4) (fun h0 b o ha=>own_from own4 h0 b o ha)
    rw [hll] at M4 S4
    exact ⟨_,rfl,M4,S4⟩)
end
section
variable {w:World} {b:Nat} {a:RA} {m:Mb}
set_option maxRecDepth 100000 in
set_option maxHeartbeats 6400000 in
theorem rsettle_any (h : RMAt w b a m) (hok : MbOk m) : Calls Tryz.prog 111 #[.pointer (some ⟨b, 0, none⟩)] w (fun e w' => e = .returned (.tuple #[]) ∧ RMAt w' b a m.settle ∧ RStep w b a m w' a m.settle) := by
  have n16:=hok.n16
  have HC:Hid (∀ W,Below w.heap.size w W → Calls Tryz.prog 131 #[logV 0 0 a.la m.log.length a.lc,.slice (some ⟨a.ma,0,none⟩) m.prog.length m.prog.length,.int .i64 m.term,.int .i64 m.settled] W fun e w'=>e=.returned (.int .i64 m.settle.settled)∧Below W.heap.size W w'):=fun W hW=>by
    have h1:=h.below hW
    have h3:(m.prog.map fun p=>p.1).length=m.prog.length:=List.length_map ..
    have h4:=rcommit_any a.la a.lc m.log (some ⟨a.ma,0,none⟩) m.prog.length (m.prog.map fun p=>p.1) m.term m.settled W h1.log hok.log (by
      refine .inr ⟨a.ma,0,rfl,zB h1.mat,fun i u hi => ?_⟩
      rw [zE h1.mat,Nat.zero_add]
      rw [List.map_map] at hi
      simpa [matV,intV] using hi) (by rw [h3];omega) hok.set0 (by have:=hok.set64;omega) (mostL_wf fun n hn=>by
        obtain ⟨p,hp,rfl⟩:=List.mem_map.1 hn
        have:=hok.pr p hp
        simp [Lit.wf,IntKind.min,IntKind.max,IntKind.bits,IntKind.signed]
        omega)
    rw [h3] at h4
    exact h4
  obtain ⟨c0,c1,c2,c3,c4,c5,c6,c7,c8,c9,c10,c11,hlt⟩:=zBA h.blk
  have HO:=Lib.hid h
  go_enter Tryz.func111,Tryz.ntmps111
  go_region_law (first
    | (go_simp;go_at_call 131;refine (HC.out _ (zK _).drew).mono ?_;rintro e w1 ⟨rfl,hb1⟩;have h2:=(h.below (zK _).drew).below hb1;obtain ⟨d0,d1,d2,d3,d4,d5,d6,d7,d8,d9,d10,d11,dlt⟩:=zBA h2.blk;obtain ⟨fr0,fr1,fr2,fr3,fr4,fr5,fr6,fr7,fr8,fr9,fr10,fr11⟩:=fro12 h2.blk;(try go_simp)))
  all_goals refine bodyPost_end (results_none rfl _ _ _) rfl ?_
  all_goals exact ⟨rfl,h2.store 8 _ rfl rfl rfl rfl,((RStep.of_below ((zK _).drew.trans hb1)).set (by simp [rfoot]) 8 _ rfl)⟩
end
section
variable {w:World} {b:Nat} {a:RA} {m:Mb}
theorem RMAt.setM (h:RMAt w b a m) {k:Nat} (hk:k<m.prog.length) (x:Int):RMAt (w.setCell ⟨a.ma,k,none⟩ (.int .i64 x)) b a { m with prog:=m.prog.set k (x,(m.prog[k]'hk).2) }:=by
  obtain ⟨a1,a2,a3,a4,a5,a6⟩:=h.apart
  have hC:Chg [a.ma] w (w.setCell ⟨a.ma,k,none⟩ (.int .i64 x)):=(Chg.refl _ _).setCell (.inl (by simp)) k _
  have e1:rmC { m with prog:=m.prog.set k (x,(m.prog[k]'hk).2) } a=rmC m a:=by simp [rmC]
  have e2:zDE { m with prog:=m.prog.set k (x,(m.prog[k]'hk).2) }=zDE m:=by simp [zDE]
  have e3:=matV_set (m:=m) k (x,(m.prog[k]'hk).2) (m':={ m with prog:=m.prog.set k (x,(m.prog[k]'hk).2) }) rfl
  have e4:nxtV { m with prog:=m.prog.set k (x,(m.prog[k]'hk).2) }=nxtV m:=by
    rw [nxtV_set (m:=m) k (x,(m.prog[k]'hk).2) rfl]
    exact set_same (by simp [nxtV,hk])
  refine ⟨?_,h.log.chgO hC (h.lout.mono fun x hx hc=>hx (by simp only [List.mem_singleton] at hc;simp [rfoot,hc])),h.lout,?_,?_,?_,by simpa using h.vn,h.ne⟩
  · rw [e1];exact zL h.blk a2.symm _
  · rw [e2];exact zL h.votes a4 _
  · rw [e3]
    have:=zQ (i:=k) h.mat (.int .i64 x)
    rwa [toArray_set] at this
  · rw [e4];exact zL h.nxt a6.symm _
theorem RMAt.setN (h:RMAt w b a m) {k:Nat} (hk:k<m.prog.length) (y:Int):RMAt (w.setCell ⟨a.na,k,none⟩ (.int .i64 y)) b a { m with prog:=m.prog.set k ((m.prog[k]'hk).1,y) }:=by
  obtain ⟨a1,a2,a3,a4,a5,a6⟩:=h.apart
  have hC:Chg [a.na] w (w.setCell ⟨a.na,k,none⟩ (.int .i64 y)):=(Chg.refl _ _).setCell (.inl (by simp)) k _
  have e1:rmC { m with prog:=m.prog.set k ((m.prog[k]'hk).1,y) } a=rmC m a:=by simp [rmC]
  have e2:zDE { m with prog:=m.prog.set k ((m.prog[k]'hk).1,y) }=zDE m:=by simp [zDE]
  have e3:=nxtV_set (m:=m) k ((m.prog[k]'hk).1,y) (m':={ m with prog:=m.prog.set k ((m.prog[k]'hk).1,y) }) rfl
  have e4:matV { m with prog:=m.prog.set k ((m.prog[k]'hk).1,y) }=matV m:=by
    rw [matV_set (m:=m) k ((m.prog[k]'hk).1,y) rfl]
    exact set_same (by simp [matV,hk])
  refine ⟨?_,h.log.chgO hC (h.lout.mono fun x hx hc=>hx (by simp only [List.mem_singleton] at hc;simp [rfoot,hc])),h.lout,?_,?_,?_,by simpa using h.vn,h.ne⟩
  · rw [e1];exact zL h.blk a3.symm _
  · rw [e2];exact zL h.votes a5 _
  · rw [e4];exact zL h.mat a6 _
  · rw [e3]
    have:=zQ (i:=k) h.nxt (.int .i64 y)
    rwa [toArray_set] at this
theorem RMAt.setNM (h:RMAt w b a m) {k:Nat} (hk:k<m.prog.length) (x y:Int):RMAt ((w.setCell ⟨a.na,k,none⟩ (.int .i64 y)).setCell ⟨a.ma,k,none⟩ (.int .i64 x)) b a { m with prog:=m.prog.set k (x,y) }:=by
  have:=(h.setN hk y).setM (k:=k) (by simpa using hk) x
  simpa using this
theorem RMAt.setV (h:RMAt w b a m) {k:Int} (h1:1≤k) (h2:k≤m.prog.length) {vs:List Int} (hv:∀ j:Int,j ∈ vs ↔ j ∈ m.votes∨j=k):RMAt (w.setCell ⟨a.va,(k - 1).toNat,none⟩ (.bool true)) b a { m with votes:=vs }:=by
  obtain ⟨a1,a2,a3,a4,a5,a6⟩:=h.apart
  have hC:Chg [a.va] w (w.setCell ⟨a.va,(k - 1).toNat,none⟩ (.bool true)):=(Chg.refl _ _).setCell (.inl (by simp)) _ _
  refine ⟨zL h.blk a1.symm _,h.log.chgO hC (h.lout.mono fun x hx hc=>hx (by simp only [List.mem_singleton] at hc;simp [rfoot,hc])),h.lout,?_,zL h.mat a4.symm _,zL h.nxt a5.symm _,fun v hv' => ?_,h.ne⟩
  · rw [votesB_set h1 h2 (m':={ m with votes:=vs }) rfl hv]
    have:=zQ (i:=(k - 1).toNat) h.votes (.bool true)
    rwa [toArray_set] at this
  · rcases (hv v).1 hv' with h3 | h3
    · exact h.vn v h3
    · exact ⟨by omega,by show v≤(m.prog.length:Int);omega⟩
def Mb.clr (m:Mb) (k:Nat):Mb:={ m with role:=2,prog:=List.replicate k (0,(lastF 0 0 m.log).1+1) ++ m.prog.drop k }
theorem Mb.clr_len {k:Nat} (hk:k≤m.prog.length):(m.clr k).prog.length=m.prog.length:=by simp [Mb.clr];omega
theorem Mb.clr_all:m.clr m.prog.length=m.clear:=by
  unfold Mb.clr Mb.clear
  rw [List.drop_length,List.append_nil,List.map_const']
theorem Mb.clr_zero:m.clr 0={ m with role:=2 }:=by simp [Mb.clr]
theorem Mb.clr_succ {k:Nat} (hk:k<m.prog.length):m.clr (k+1)={ m.clr k with prog:=(m.clr k).prog.set k (0,(lastF 0 0 m.log).1+1) }:=by
  unfold Mb.clr
  congr 1
  simp only
  rw [List.set_append_right _ _ (by simp),List.length_replicate,Nat.sub_self,List.drop_eq_getElem_cons hk,List.set_cons_zero,List.replicate_succ',List.append_assoc]
  rfl
set_option maxRecDepth 100000 in
set_option maxHeartbeats 6400000 in
theorem rlead_any (h:RMAt w b a m) (hok:MbOk m) (ht:1≤m.term):Calls Tryz.prog 77 #[.pointer (some ⟨b,0,none⟩)] w (RetRR m.lead m.lead.adds b a m w):=by
  have n16:=hok.n16
  have HLF:=Lib.hid hok.lastF
  have HLA:Hid (∀ W,Below w.heap.size w W → Calls Tryz.prog 75 #[logV 0 0 a.la m.log.length a.lc] W fun e w'=>e=.returned (.tuple #[.int .i64 (m.log.length:Int),.int .i64 (endT m.log 0)])∧Below W.heap.size W w'):=fun W hW=>by
    have:=zBX 0 0 a.la a.lc m.log W (h.log.below hW)
    rwa [HLF.out] at this
  have HO:=Lib.hid h
  obtain ⟨c0,c1,c2,c3,c4,c5,c6,c7,c8,c9,c10,c11,hlt⟩:=zBA h.blk
  go_enter Tryz.func77,Tryz.ntmps77
  go_wp2_with (go_at_call 75;refine (HLA.out _ (zK _)).mono ?_;rintro e w1 ⟨rfl,hb1⟩;have H1:=HO.out.below hb1;obtain ⟨d0,d1,d2,d3,d4,d5,d6,d7,d8,d9,d10,d11,dlt⟩:=zBA H1.blk;obtain ⟨fr0,fr1,fr2,fr3,fr4,fr5,fr6,fr7,fr8,fr9,fr10,fr11⟩:=fro12 H1.blk)
  have H1s:RMAt (w1.setCell ⟨b,7,none⟩ (.int .i64 2)) b a (m.clr 0):=by rw [Mb.clr_zero];exact H1.store 7 _ rfl rfl rfl rfl
  have S1:RStep w b a m (w1.setCell ⟨b,7,none⟩ (.int .i64 2)) a (m.clr 0):=(RStep.of_below hb1).set (m1:=m) (by simp [rfoot]) 7 _ rfl
  clear c0 c1 c2 c3 c4 c5 c6 c7 c8 c9 c10 c11 hlt d0 d1 d2 d3 d4 d5 d6 d7 d8 d9 d10 d11 dlt fr0 fr1 fr2 fr3 fr4 fr5 fr6 fr7 fr8 fr9 fr10 fr11
  have h64:=hok.len64
  have h64i:(m.log.length:Int)≤64:=by omega
  go_loopw [5] (fun i wr=>∃ (k:Nat),k≤m.prog.length∧i=.int .i64 (k:Int)∧RMAt wr b a (m.clr k)∧RStep w b a m wr a (m.clr k)) (fun i _=>m.prog.length - (intOf i).toNat)
  case atStart=>exact ⟨0,by omega,rfl,H1s,S1⟩
  case round =>
    clear H1s S1 H1 hb1
    obtain ⟨k,hk,rfl,Hk,Sk⟩:=hrel
    have HLN:Hid ((m.clr k).prog.length=m.prog.length):=Mb.clr_len hk
    by_cases hlt:k<m.prog.length
    · have hk0:(0:Int)≤(k:Int):=by omega
      have hk1:(k:Int)<(m.prog.length:Int):=by omega
      have hk2:(k:Int)≤16:=by omega
      have hwk:=zS (x:=(k:Int)+1) (by omega) (by omega)
      have hwl:=zS (x:=(m.log.length:Int)+1) (by omega) (by omega)
      have hblk:=Hk.blk
      have hnx:=Hk.nxt
      have hmx:=Hk.mat
      have hn1:=zN hnx k
      have hn2:=zB hnx
      have hm1:=zN hmx k
      have hm2:=zB hmx
      have hn3:wr.cell? ⟨a.na,k,none⟩=some (.int .i64 ((m.clr k).prog[k]'(by rw [HLN.out];exact hlt)).2):=(zE hnx k).trans (by simp [nxtV,HLN.out,hlt])
      have hm3:wr.cell? ⟨a.ma,k,none⟩=some (.int .i64 ((m.clr k).prog[k]'(by rw [HLN.out];exact hlt)).1):=(zE hmx k).trans (by simp [matV,HLN.out,hlt])
      obtain ⟨a1,a2,a3,a4,a5,a6⟩:=Hk.apart
      simp only [rmC,HLN.out] at hblk
      obtain ⟨c0,c1,c2,c3,c4,c5,c6,c7,c8,c9,c10,c11,hlt2⟩:=zBA hblk
      have HNX:=Lib.hid (Hk.setNM (k:=k) (by rw [HLN.out];exact hlt) 0 ((m.log.length:Int)+1))
      have HNS:Hid ({ m.clr k with prog:=(m.clr k).prog.set k (0,(m.log.length:Int)+1) }=m.clr (k+1)):=by rw [Hid,Mb.clr_succ hlt,HLF.out]
      clear hnx hmx hblk
      go_wp2
      exact ⟨⟨k+1,by omega,by go_num,by rw [← HNS.out];exact HNX.out,by rw [← HNS.out];exact ((Sk.set (m2:=m.clr k) (by simp [rfoot]) k _ rfl).set (by simp [rfoot]) k _ rfl)⟩,by simp [intOf];omega⟩
    · have hke:k=m.prog.length:=by omega
      subst hke
      have hk1:¬ (m.prog.length:Int)<(m.prog.length:Int):=by omega
      rw [Mb.clr_all] at Hk Sk
      have okc:=hok.clear ht
      have hmc:m.clear.prog.length=m.prog.length:=by simp [Mb.clear]
      have hml:m.clear.log.length=m.log.length:=rfl
      have hblk:=Hk.blk
      simp only [rmC,hmc,hml] at hblk
      obtain ⟨c0,c1,c2,c3,c4,c5,c6,c7,c8,c9,c10,c11,hlt2⟩:=zBA hblk
      clear hblk
      have HPU:Hid (m.log.length<64 → Calls Tryz.prog 110 #[.pointer (some ⟨b,0,none⟩),.agg #[.int .i64 0,.int .i64 0,.int .i64 0,.int .i64 0,.int .i64 0,.int .i64 0]] wr (RetRU (m.clear.put (0,0,0,0,0,0)) b a m.clear (.tuple #[]) wr)):=fun hl=>rput_any Hk (0,0,0,0,0,0) hl
      have HPF:Hid (¬ m.log.length<64 → m.clear.put (0,0,0,0,0,0)=m.clear):=fun hl=>if_pos (by show 64≤m.log.length;omega)
      have okp:=okc.put ht (0,0,0,0,0,0)
      have hpp:(m.clear.put (0,0,0,0,0,0)).prog.length=m.prog.length:=by unfold Mb.put;split <;> exact hmc
      have hpi:(m.clear.put (0,0,0,0,0,0)).id=m.id:=by unfold Mb.put;split <;> rfl
      go_upto_if 45 with fail
      go_cut [] (fun wx=>∃ a',RMAt wx b a' (m.clear.put (0,0,0,0,0,0))∧RStep w b a m wx a' (m.clear.put (0,0,0,0,0,0)))
      case first =>
        by_cases hl:m.log.length<64
        · have hli:(m.log.length:Int)<64:=by omega
          have HP1:=Lib.hid (HPU.out hl)
          clear hl
          go_wp2_with (go_at_call 110;refine HP1.out.mono ?_;rintro e w3 ⟨a3,rfl,H3,S3⟩)
          go_meet
          exact ⟨a3,H3,Sk.trans S3⟩
        · have hli:¬ (m.log.length:Int)<64:=by omega
          have HP1:=Lib.hid (HPF.out hl)
          clear hl
          go_wp2
          go_meet
          rw [HP1.out]
          exact ⟨a,Hk,Sk⟩
      case rest =>
        obtain ⟨a4,H4,S4⟩:=hcut
        clear Hk Sk HPU HPF c0 c1 c2 c3 c4 c5 c6 c7 c8 c9 c10 c11 hlt2
        have HLD:Hid (m.lead=(m.clear.put (0,0,0,0,0,0)).mark.settle):=rfl
        generalize m.clear.put (0,0,0,0,0,0)=p at *
        have n16p:p.prog.length≤16:=by omega
        clear hpp hpi
        have HLF4:=Lib.hid okp.lastF
        have HLA4:Hid (∀ W,Below wc.heap.size wc W → Calls Tryz.prog 75 #[logV 0 0 a4.la p.log.length a4.lc] W fun e w'=>e=.returned (.tuple #[.int .i64 (p.log.length:Int),.int .i64 (endT p.log 0)])∧Below W.heap.size W w'):=fun W hW=>by
          have:=zBX 0 0 a4.la a4.lc p.log W (H4.log.below hW)
          rwa [HLF4.out] at this
        obtain ⟨c0,c1,c2,c3,c4,c5,c6,c7,c8,c9,c10,c11,hlt2⟩:=zBA H4.blk
        have hid1:=okp.id1
        have hidn:=okp.idn
        obtain ⟨q,hpid⟩:∃ q:Nat,p.id=(q:Int)+1:=⟨(p.id - 1).toNat,by omega⟩
        have hdn:q<p.prog.length:=by omega
        have hqn:(q:Int)<p.prog.length:=by omega
        have hq0:(0:Int)≤(q:Int):=by omega
        have hwi:=zS (x:=(q:Int)) (by omega) (by omega)
        have hqe:(p.id - 1).toNat=q:=by omega
        have HMK:Hid (p.mark={ p with prog:=p.prog.set q ((p.log.length:Int),(p.prog[q]'hdn).2) }):=by
          unfold Mb.mark Mb.prAt
          rw [Hid,HLF4.out,hqe,List.getD_eq_getElem?_getD,List.getElem?_eq_getElem hdn]
          rfl
        go_wp2_with (go_at_call 75;refine (HLA4.out _ (zK _)).mono ?_;rintro e w5 ⟨rfl,hb5⟩;have H5:=H4.below hb5;obtain ⟨d0,d1,d2,d3,d4,d5,d6,d7,d8,d9,d10,d11,dlt⟩:=zBA H5.blk;have m5:=zN H5.mat q;have ml5:=zB H5.mat;have mc5:w5.cell? ⟨a4.ma,q,none⟩=some (.int .i64 (p.prog[q]'hdn).1):=(zE H5.mat _).trans (by simp only [matV,List.getElem?_toArray,List.getElem?_map,List.getElem?_eq_getElem hdn,Option.map_some]))
        have H6:=(H5.drew.setM hdn (p.log.length:Int))
        have S6:=(((S4.below hb5).below (Below.refl _ _).drew).set (m2:=p.mark) (c:=a4.ma) (by simp [rfoot]) q (.int .i64 (p.log.length:Int)) rfl)
        clear hqe
        rw [← HMK.out] at H6
        have okm:=okp.mark
        have HST:=Lib.hid (rsettle_any H6 okm)
        clear c0 c1 c2 c3 c4 c5 c6 c7 c8 c9 c10 c11 hlt2
        go_region_law (fail)
        all_goals (
          go_wp2_with (first
            | (go_at_call 111;refine HST.out.mono ?_;rintro e w7 ⟨rfl,H7,S7⟩;rw [← HLD.out] at H7 S7;have HAD:=Lib.hid (radds_any H7 (by rw [HLD.out];exact okm.settle)))
            | (go_at_call 82;refine HAD.out.mono ?_;rintro e w8 ⟨A8,c8',sl8,rfl,ms8,hb8⟩))
          go_ret
          exact ⟨a4,w7.heap.size,A8,c8',sl8,rfl,H7.below hb8,(S6.trans S7).below hb8,(S6.trans S7).chg.size,H7.lt,ms8⟩)
end
theorem RetRR.nil {w w':World} {b:Nat} {a a':RA} {m m':Mb} (h:RMAt w' b a' m') (hs:RStep w b a m w' a' m'):RetRR m' [] b a m w (.returned (.slice none 0 0)) w':=⟨a',w'.heap.size,none,0,[],rfl,h,hs,hs.chg.size,h.lt,MsAt.nil _ _⟩
def RetRP (r:Mb × Int × List Ms × Int) (b:Nat) (a:RA) (m:Mb) (w:World) (en:Ending) (w':World):Prop :=
  ∃ a' B A c sl,en=.returned (.tuple #[.int .i64 r.2.1,.slice A r.2.2.1.length c,.int .i64 r.2.2.2])∧RMAt w' b a' r.1∧RStep w b a m w' a' r.1∧w.heap.size≤B∧(∀ x ∈ rfoot b a',x<B)∧MsAt w' B A c r.2.2.1 sl
theorem RetRP.nil {w w':World} {b:Nat} {a a':RA} {m m':Mb} (e:Int) (h:RMAt w' b a' m') (hs:RStep w b a m w' a' m'):RetRP (m',0,[],e) b a m w (.returned (.tuple #[.int .i64 0,.slice none 0 0,.int .i64 e])) w':=⟨a',w'.heap.size,none,0,[],rfl,h,hs,hs.chg.size,h.lt,MsAt.nil _ _⟩
section
variable {w:World} {b:Nat} {a:RA} {m:Mb}
theorem rbeat_any (h:RMAt w b a m) (hok:MbOk m):Calls Tryz.prog 46 #[.pointer (some ⟨b,0,none⟩)] w (RetRR m.beat.1 m.beat.2 b a m w):=by
  obtain ⟨c0,c1,c2,c3,c4,c5,c6,c7,c8,c9,c10,c11,hlt⟩:=zBA h.blk
  have HO:=Lib.hid h
  by_cases hr:m.role=2
  · have hr1:(m.role != 2)=false:=by simp [hr]
    have HB:Hid (m.beat=(m,m.adds)):=by rw [Hid,Mb.beat,if_pos hr]
    have HA:=Lib.hid (radds_any h hok)
    clear hr
    go_enter Tryz.func46,Tryz.ntmps46
    go_wp2_with (go_at_call 82;refine HA.out.mono ?_;rintro e w1 ⟨A1,cc1,sl1,rfl,hms1,hb1⟩)
    go_ret
    rw [HB.out]
    exact ⟨a,w.heap.size,A1,cc1,sl1,rfl,HO.out.below hb1,.of_below hb1,Nat.le_refl _,HO.out.lt,hms1⟩
  · have hr1:(m.role != 2)=true:=by simpa using hr
    have HB:Hid (m.beat=(m,[])):=by rw [Hid,Mb.beat,if_neg hr]
    clear hr
    go_enter Tryz.func46,Tryz.ntmps46
    go_wp2
    go_ret
    rw [HB.out]
    exact RetRR.nil HO.out (RStep.refl _ _ _ _)
end
section
variable {w:World} {b:Nat} {a:RA} {m:Mb}
set_option maxRecDepth 100000 in
set_option maxHeartbeats 6400000 in
theorem rpropose_any (h:RMAt w b a m) (hok:MbOk m) (c:Cm):Calls Tryz.prog 83 #[.pointer (some ⟨b,0,none⟩),cmV c] w (RetRP (m.propose c) b a m w):=by
  have hal:=zC w (.cells #[.int .i64 c.1,.int .i64 c.2.1,.int .i64 c.2.2.1,.int .i64 c.2.2.2.1,.int .i64 c.2.2.2.2.1,.int .i64 c.2.2.2.2.2] 40)
  have HA:=Lib.hid (h.below hal)
  obtain ⟨c0,c1,c2,c3,c4,c5,c6,c7,c8,c9,c10,c11,hlt⟩:=zBA (h.below hal).blk
  by_cases hr:m.role=2
  rotate_left 1
  · have hr1:(m.role != 2)=true:=by simpa using hr
    have HB:Hid (m.propose c=(m,0,[],8)):=by rw [Hid,Mb.propose,if_pos hr]
    clear hr
    go_enter Tryz.func83,Tryz.ntmps83
    go_wp2
    refine bodyPost_ret (v:=.tuple #[.int .i64 0,.slice none 0 0,.int .i64 8]) (by simp [results,Tryz.results83,go_sem]) rfl ?_
    rw [HB.out]
    exact RetRP.nil 8 HA.out (.of_below hal)
  have ht:=hok.live (by omega)
  have hr1:(m.role != 2)=false:=by simp [hr]
  by_cases hf:64≤m.log.length
  · have HB:Hid (m.propose c=(m,0,[],7)):=by rw [Hid,Mb.propose,if_neg (by simpa using hr),if_pos hf]
    have hf1:(64:Int)≤(m.log.length:Int):=by omega
    clear hr hf
    go_enter Tryz.func83,Tryz.ntmps83
    go_wp2
    refine bodyPost_ret (v:=.tuple #[.int .i64 0,.slice none 0 0,.int .i64 7]) (by simp [results,Tryz.results83,go_sem]) rfl ?_
    rw [HB.out]
    exact RetRP.nil 7 HA.out (.of_below hal)
  have hf1:(m.log.length:Int)<64:=by omega
  have HB:Hid (m.propose c=(m.took c,(lastF 0 0 (m.took c).log).1,(m.took c).adds,0)):=by rw [Hid,Mb.propose,if_neg (by simpa using hr),if_neg hf]
  have HP:=Lib.hid (rput_any HA.out c (by omega))
  have okp:=hok.put ht c
  have HLD:Hid (m.took c=(m.put c).mark.settle):=rfl
  clear hr hf
  have hpp:(m.put c).prog.length=m.prog.length:=by unfold Mb.put;split <;> rfl
  have n16:=hok.n16
  go_enter Tryz.func83,Tryz.ntmps83
  generalize m.put c=p at *
  have n16p:p.prog.length≤16:=by omega
  clear hpp
  have HLF4:=Lib.hid okp.lastF
  have hid1:=okp.id1
  have hidn:=okp.idn
  obtain ⟨q,hpid⟩:∃ q:Nat,p.id=(q:Int)+1:=⟨(p.id - 1).toNat,by omega⟩
  have hdn:q<p.prog.length:=by omega
  have hqn:(q:Int)<p.prog.length:=by omega
  have hq0:(0:Int)≤(q:Int):=by omega
  have hwi:=zS (x:=(q:Int)) (by omega) (by omega)
  have hqe:(p.id - 1).toNat=q:=by omega
  have HMK:Hid (p.mark={ p with prog:=p.prog.set q ((p.log.length:Int),(p.prog[q]'hdn).2) }):=by
    unfold Mb.mark Mb.prAt
    rw [Hid,HLF4.out,hqe,List.getD_eq_getElem?_getD,List.getElem?_eq_getElem hdn]
    rfl
  clear hqe
  have HLA4:Hid (∀ W a4,RMAt W b a4 p → Calls Tryz.prog 75 #[logV 0 0 a4.la p.log.length a4.lc] W fun e w'=>e=.returned (.tuple #[.int .i64 (p.log.length:Int),.int .i64 (endT p.log 0)])∧Below W.heap.size W w'):=fun W a4 hW=>by
    have:=zBX 0 0 a4.la a4.lc p.log W hW.log
    rwa [HLF4.out] at this
  go_wp2_with (first
    | (go_at_call 110;refine HP.out.mono ?_;rintro e w1 ⟨a4,rfl,H4,S4⟩;clear c0 c1 c2 c3 c4 c5 c6 c7 c8 c9 c10 c11 hlt;obtain ⟨c0,c1,c2,c3,c4,c5,c6,c7,c8,c9,c10,c11,hlt⟩:=zBA H4.blk;have HL4:=Lib.hid (HLA4.out _ _ H4))
    | (go_at_call 75;refine HL4.out.mono ?_;rintro e w5 ⟨rfl,hb5⟩;have H5:=H4.below hb5;obtain ⟨d0,d1,d2,d3,d4,d5,d6,d7,d8,d9,d10,d11,dlt⟩:=zBA H5.blk;have m5:=zN H5.mat q;have ml5:=zB H5.mat;have mc5:w5.cell? ⟨a4.ma,q,none⟩=some (.int .i64 (p.prog[q]'hdn).1):=(zE H5.mat _).trans (by simp only [matV,List.getElem?_toArray,List.getElem?_map,List.getElem?_eq_getElem hdn,Option.map_some])))
  have H6:=(H5.drew.setM hdn (p.log.length:Int))
  have S6:=((((S4.pre hal).below hb5).below (Below.refl _ _).drew).set (m2:=p.mark) (c:=a4.ma) (by simp [rfoot]) q (.int .i64 (p.log.length:Int)) rfl)
  rw [← HMK.out] at H6
  have okm:=okp.mark
  have HST:=Lib.hid (rsettle_any H6 okm)
  clear c0 c1 c2 c3 c4 c5 c6 c7 c8 c9 c10 c11 hlt
  go_region_law (fail)
  all_goals (
    go_wp2_with (first
      | (go_at_call 111;refine HST.out.mono ?_;rintro e w7 ⟨rfl,H7,S7⟩;rw [← HLD.out] at H7 S7;have HAD:=Lib.hid (radds_any H7 (by rw [HLD.out];exact okm.settle)))
      | (go_at_call 82;refine HAD.out.mono ?_;rintro e w8 ⟨A8,c8',sl8,rfl,ms8,hb8⟩))
    refine bodyPost_ret (v:=.tuple #[.int .i64 (p.log.length:Int),.slice A8 (m.took c).adds.length c8',.int .i64 0]) (by simp [results,Tryz.results83,go_sem]) rfl ?_
    have hli:(lastF 0 0 (m.took c).log).1=(p.log.length:Int):=by rw [HLD.out];exact congrArg Prod.fst HLF4.out
    rw [HB.out,hli]
    exact ⟨a4,w7.heap.size,A8,c8',sl8,rfl,H7.below hb8,(S6.trans S7).below hb8,(S6.trans S7).chg.size,H7.lt,ms8⟩)
end
end Go.Proofs.YtnljdkglncmfaaaGreat
