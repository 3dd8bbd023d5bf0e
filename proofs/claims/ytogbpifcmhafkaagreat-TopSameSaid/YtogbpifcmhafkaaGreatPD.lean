/-
 Part PD of the proof.
-/
import Derived.Test.YtogbpifcmhafkaaGreatPB
open Go renaming Addr->mB,TypeId->tC,Value->uB,World->uA
open Go.RowKit.Below renaming heap_setCell->qV
open Go.World renaming setCell->cK,size_alloc->wB
open List renaming length_cons->qD,length_take->sB
open Nat renaming le_refl->mA,le_trans->pA,lt_of_lt_of_le->tA
open Option renaming some->yA
namespace Go.Proofs.YtogbpifcmhafkaaGreat
open Go.RowKit Tryz
open Go.Lib(hid)
set_option linter.unusedVariables false
set_option linter.unusedSimpArgs false
set_option maxRecDepth 100000
set_option maxHeartbeats 16000000
instance decCm:DecidableEq Cm:=by unfold Cm;infer_instance
instance decEn:DecidableEq En:=by unfold En;infer_instance
theorem zLl:oQ prog 43 227 (.agg #[.int .i64 0,.int .i64 0,.int .i64 0,.int .i64 0,.int .i64 0,.int .i64 0,.int .i64 0]) 7 56:=⟨underlying43,by kernel_rfl,rfl,by omega⟩
theorem fP {w:uA} {base:Nat} {e:tC} {size n cap:Nat} {A:Option mB} {xs:List uB} (h:w.ownsRow base e size (.slice A n cap) n xs):n<=cap:=by
 obtain ⟨_,c,hv,hc⟩:=zEV h
 injection hv with _ _ h4
 omega
theorem zQI {w:uA} {base:Nat} {e:tC} {size n cap:Nat} {A:Option mB} {xs:List uB} (h:w.ownsRow base e size (.slice A n cap) n xs):n<=maxLen:=by
 rcases h.2 with ⟨hv,hx⟩ | ⟨g,c,cur,hv,hg,hh,hnc,hcm,_⟩
 ·injection hv with _ h3 _
  unfold maxLen
  omega
 ·exact pA hnc hcm
theorem xT {w:uA} {base:Nat} {e:tC} {size n cap:Nat} {A:Option mB} {xs:List uB} (h:w.ownsRow base e size (.slice A n cap) n xs):A=none -> n=0:=fun ha=>by
 subst ha
 rcases h.2 with ⟨hv,hx⟩ | ⟨g,c,cur,hv,_⟩
 ·injection hv
 ·injection hv with h1
  cases h1
theorem zEh.of_own {w:uA} {base cap:Nat} {A:Option mB} {es:List En} (h:w.ownsRow base 227 7 (.slice A es.length cap) es.length (zHX es)):zEh w A cap es:=⟨dC.of_own h,fP h,xT h,zQI h⟩
structure zAE (R:Nat) (w w':uA):Prop where
 os:w'.os=w.os
 tape:w'.tape=w.tape
 output:w'.output=w.output
 size:w.heap.size<=w'.heap.size
 block:∀ k,k<w.heap.size -> k≠R -> w'.heap[k]?=w.heap[k]?
theorem zAE.refl (R:Nat) (w:uA):zAE R w w:=⟨rfl,rfl,rfl,mA _,fun _ _ _=>rfl⟩
theorem zAE.trans {R:Nat} {a b c:uA} (h:zAE R a b) (k:zAE R b c):zAE R a c :=
 ⟨k.os.trans h.os,k.tape.trans h.tape,k.output.trans h.output,pA h.size k.size,fun i hi hne=>(k.block i (tA hi h.size) hne).trans (h.block i hi hne)⟩
theorem zAE.many {R:Nat} {a w:uA} (h:zAE R a w) (n:Nat):zAE R a (w.drewN n):=⟨h.os,h.tape,h.output,h.size,h.block⟩
theorem zAE.setCell {R:Nat} {a w:uA} (h:zAE R a w) (i:Nat) (v:uB):zAE R a (w.setCell ⟨R,i,none⟩ v) :=
 ⟨h.os,h.tape,h.output,by simpa [cK] using h.size,fun k hk hne=>by rw [qV _ _ _ _ (by simpa using hne)];exact h.block k hk hne⟩
theorem zAE.of_below {R:Nat} {w w':uA} (h:Below w.heap.size w w'):zAE R w w':=⟨h.os,h.tape,h.output,h.size,fun k hk _=>h.block k hk⟩
theorem zAE.below {R B:Nat} {w0 w w':uA} (h:zAE R w w') (h0:Below B w0 w) (hR:B<=R) (hB:B<=w.heap.size):Below B w0 w' :=
 ⟨h.os.trans h0.os,h.tape.trans h0.tape,h.output.trans h0.output,pA h0.size h.size,fun k hk=>(h.block k (tA hk hB) (by omega)).trans (h0.block k hk)⟩
theorem zAE.keep {R F:Nat} {w w':uA} {o:Obj} (h:zAE R w w') (hF:w.heap[F]?=yA o) (hne:F≠R):w'.heap[F]?=yA o:=by rw [h.block F (eB hF) hne];exact hF
theorem zEh.zero (w:uA):zEh w none 0 []:=⟨dC.nil,mA _,fun _=>rfl,Nat.zero_le _⟩
structure fD (S:List Nat) (w w':uA):Prop where
 os:w'.os=w.os
 tape:w'.tape=w.tape
 output:w'.output=w.output
 size:w.heap.size<=w'.heap.size
 block:∀ k,k<w.heap.size -> k ∉ S -> w'.heap[k]?=w.heap[k]?
theorem fD.refl (S:List Nat) (w:uA):fD S w w:=⟨rfl,rfl,rfl,mA _,fun _ _ _=>rfl⟩
theorem fD.trans {S T:List Nat} {a b c:uA} (h:fD S a b) (k:fD T b c) (hT:∀ x ∈ T,x ∈ S\/a.heap.size<=x):fD S a c :=
 ⟨k.os.trans h.os,k.tape.trans h.tape,k.output.trans h.output,pA h.size k.size,fun i hi hne=>(k.block i (tA hi h.size) fun hc=>by rcases hT i hc with h1 | h1;exact hne h1;omega).trans (h.block i hi hne)⟩
theorem fD.mono {S T:List Nat} {a b:uA} (h:fD S a b) (hs:∀ x ∈ S,x ∈ T\/a.heap.size<=x):fD T a b :=
 ⟨h.os,h.tape,h.output,h.size,fun k hk hne=>h.block k hk fun hc=>by rcases hs k hc with h1 | h1;exact hne h1;omega⟩
theorem fD.of_below {S:List Nat} {w w':uA} (h:Below w.heap.size w w'):fD S w w':=⟨h.os,h.tape,h.output,h.size,fun k hk _=>h.block k hk⟩
theorem fD.below {S:List Nat} {a w w':uA} (h:fD S a w) (hb:Below w.heap.size w w'):fD S a w':=h.trans (T:=[]) (fD.of_below hb) (fun x hx=>by cases hx)
theorem fD.pre {S:List Nat} {a w w':uA} (hb:Below a.heap.size a w) (h:fD S w w'):fD S a w':=(fD.of_below hb).trans h (fun x hx=>.inl hx)
theorem fD.many {S:List Nat} {a w:uA} (h:fD S a w) (n:Nat):fD S a (w.drewN n):=⟨h.os,h.tape,h.output,h.size,h.block⟩
theorem fD.drew {S:List Nat} {a w:uA} (h:fD S a w):fD S a w.drew:=⟨h.os,h.tape,h.output,h.size,h.block⟩
theorem fD.setCell {S:List Nat} {a w:uA} (h:fD S a w) {b:Nat} (hb:b ∈ S\/a.heap.size<=b) (i:Nat) (v:uB):fD S a (w.setCell ⟨b,i,none⟩ v) :=
 ⟨h.os,h.tape,h.output,by simpa [cK] using h.size,fun k hk hne=>by
  have:k≠b:=fun e=>by subst e;rcases hb with h1 | h1;exact hne h1;omega
  rw [qV _ _ _ _ (by simpa using this)];exact h.block k hk hne⟩
theorem fD.alloc {S:List Nat} {a w:uA} (h:fD S a w) (o:Obj):fD S a (w.alloc o):=h.below (wA w o)
theorem fD.grown {S:List Nat} {a w w':uA} {row:Option Nat} (h:fD S a w) (hg:w.grownBy w' row) (hr:∀ b,row=yA b -> b ∈ S\/a.heap.size<=b):fD S a w' :=
 ⟨hg.os.trans h.os,hg.tape.trans h.tape,hg.output.trans h.output,pA h.size hg.size,fun k hk hne=>(hg.block k (tA hk h.size) fun hc=>by rcases hr k hc.symm with h1 | h1;exact hne h1;omega).trans (h.block k hk hne)⟩
theorem fD.keep {S:List Nat} {F:Nat} {w w':uA} {o:Obj} (h:fD S w w') (hF:w.heap[F]?=yA o) (hne:F ∉ S):w'.heap[F]?=yA o:=by rw [h.block F (eB hF) hne];exact hF
theorem fD.to_below {S:List Nat} {B:Nat} {w w':uA} (h:fD S w w') (hS:∀ x ∈ S,B<=x) (hB:B<=w.heap.size):Below B w w':=⟨h.os,h.tape,h.output,h.size,fun k hk=>h.block k (tA hk hB) fun hc=>by have:=hS k hc;omega⟩
theorem fD.cell {S:List Nat} {w w':uA} (h:fD S w w') {b o:Nat} (hb:b<w.heap.size) (hne:b ∉ S):w'.cell? ⟨b,o,none⟩=w.cell? ⟨b,o,none⟩:=by
 have:=h.block b hb hne
 simp only [World.cell?,this]
def zB:Option mB -> List Nat
 | none=>[]
 | some p=>[p.block]
theorem dC.chg {S:List Nat} {w w':uA} {A:Option mB} {xs:List uB} (h:dC w A xs) (hc:fD S w w') (hne:∀ x ∈ zB A,x ∉ S):dC w' A xs:=by
 rcases h with h | ⟨b,off,rfl,hlt,hx⟩
 ·exact .inl h
 ·exact .inr ⟨b,off,rfl,tA hlt hc.size,fun i u hi=>by rw [hc.cell hlt (hne b (by simp [zB]))];exact hx i u hi⟩
theorem xE {S:List Nat} {w w':uA} {base:Nat} {e:tC} {size:Nat} {A:Option mB} {m cap:Nat} {n:Nat} {xs:List uB} (h:w.ownsRow base e size (.slice A m cap) n xs) (hc:fD S w w') (hne:∀ x ∈ zB A,x ∉ S):w'.ownsRow base e size (.slice A m cap) n xs:=by
 refine ⟨h.1,?_⟩
 rcases h.2 with h2 | ⟨g,cap,cur,hv,hg,hh,r⟩
 ·exact .inl h2
 ·injection hv with h1 h2 h3
  subst h1
  exact .inr ⟨g,cap,cur,by rw [h2,h3],hg,hc.keep hh (hne g (by simp [zB])),r⟩
theorem qC {w:uA} {base:Nat} {e:tC} {size:Nat} {A:Option mB} {m cap:Nat} {n:Nat} {xs:List uB} (h:w.ownsRow base e size (.slice A m cap) n xs):∀ x ∈ zB A,base<=x/\x<w.heap.size:=by
 intro x hx
 rcases h.2 with ⟨h2,_⟩ | ⟨g,cap,cur,hv,hg,hh,r⟩
 ·injection h2 with h1
  subst h1
  cases hx
 ·injection hv with h1 h2 h3
  subst h1
  simp only [zB,List.mem_singleton] at hx
  subst hx
  exact ⟨hg,eB hh⟩
theorem mQ {w:uA} {base base':Nat} {e:tC} {size:Nat} {A:Option mB} {m cap:Nat} {n:Nat} {xs:List uB} (h:w.ownsRow base e size (.slice A m cap) n xs) (hb:∀ x ∈ zB A,base'<=x):w.ownsRow base' e size (.slice A m cap) n xs:=by
 refine ⟨h.1,?_⟩
 rcases h.2 with h2 | ⟨g,cap,cur,hv,hg,r⟩
 ·exact .inl h2
 ·injection hv with h1 h2 h3
  subst h1
  exact .inr ⟨g,cap,cur,by rw [h2,h3],hb g (by simp [zB]),r⟩
theorem zGq {w:uA} {base:Nat} {e:tC} {size:Nat} {g n cap:Nat} {xs:List uB} (h:w.ownsRow base e size (.slice (yA ⟨g,0,none⟩) n cap) n xs) (i:Nat) (v:uB):(w.setCell ⟨g,i,none⟩ v).ownsRow base e size (.slice (yA ⟨g,0,none⟩) n cap) n (xs.set i v):=by
 refine ⟨by rw [List.length_set];exact h.1,?_⟩
 rcases h.2 with ⟨h2,_⟩ | ⟨g',cap',cur,hv,hg,hh,hnc,hcm,hcs,hx⟩
 ·cases h2
 ·injection hv with hv h3 h4
  injection hv with hv
  injection hv with hv
  subst hv
  subst h4
  refine .inr ⟨g,cap,cur.setIfInBounds i v,rfl,hg,zD hh v,hnc,hcm,by rw [Array.size_setIfInBounds];exact hcs,?_⟩
  rw [Array.toList_setIfInBounds,List.take_set,hx]
theorem mG {w:uA} {base:Nat} {e:tC} {size:Nat} {g n cap:Nat} {xs:List uB} (h:w.ownsRow base e size (.slice (yA ⟨g,0,none⟩) n cap) n xs) (i:Nat):w.frozen? ⟨g,i,none⟩=false:=by
 rcases h.2 with ⟨h2,_⟩ | ⟨g',cap',cur,hv,hg,hh,r⟩
 ·cases h2
 ·injection hv with hv;injection hv with hv;injection hv with hv;subst hv
  exact qB hh i
theorem mH {w:uA} {base:Nat} {e:tC} {size:Nat} {g n cap:Nat} {xs:List uB} (h:w.ownsRow base e size (.slice (yA ⟨g,0,none⟩) n cap) n xs) {i:Nat} {u:uB} (hi:xs[i]?=yA u):w.cell? ⟨g,i,none⟩=yA u:=by
 obtain ⟨b,off,hA,_,hc⟩:=(dC.of_own h).at hi
 cases hA
 rwa [Nat.zero_add] at hc
def zEa (cs:Array uB):Nat -> List uB -> Array uB
 | _,[]=>cs
 | o,v :: vs=>zEa (cs.setIfInBounds o v) (o+1) vs
theorem dJ (vs:List uB):∀ (cs:Array uB) (o:Nat),o+vs.length<=cs.size -> (zEa cs o vs).toList=cs.toList.take o ++ vs ++ cs.toList.drop (o+vs.length):=by
 induction vs with
 | nil=>intro cs o h;simp [zEa]
 | cons v vs ih =>
  intro cs o h
  simp only [qD] at h
  rw [zEa,ih _ _ (by simp;omega)]
  have h1:(cs.setIfInBounds o v).toList=cs.toList.set o v:=by simp
  rw [h1]
  have hlt:o<cs.toList.length:=by simp;omega
  rw [List.drop_set_of_lt (by omega),List.take_set,qD]
  have h2:(cs.toList.take (o+1)).set o v=cs.toList.take o ++ [v]:=by
   rw [List.take_succ_eq_append_getElem hlt,List.set_append_right _ _ (by rw [sB];omega)]
   have:o - (List.take o cs.toList).length=0:=by rw [sB];omega
   rw [this]
   rfl
  rw [h2,show o+1+vs.length=o+(vs.length+1) by omega]
  simp
theorem jG (vs:List uB):∀ (cs:Array uB) (o:Nat),(zEa cs o vs).size=cs.size:=by
 induction vs with
 | nil=>intro cs o;rfl
 | cons v vs ih=>intro cs o;rw [zEa,ih];simp
theorem uI {F:Nat} {t:tC} (vs:List uB):∀ (o:Nat) (w:uA) (cs:Array uB),w.heap[F]?=yA (.cells cs t) -> (w.setCells F o vs).heap[F]?=yA (.cells (zEa cs o vs) t):=by
 induction vs with
 | nil=>intro o w cs h;exact h
 | cons v vs ih=>intro o w cs h;exact ih (o+1) _ _ (zD h v)
theorem rK {S:List Nat} {F:Nat} (hF:F ∈ S) (vs:List uB):∀ (o:Nat) {a w:uA},fD S a w -> fD S a (w.setCells F o vs):=by
 induction vs with
 | nil=>intro o a w h;exact h
 | cons v vs ih=>intro o a w h;exact ih (o+1) (h.setCell (.inl hF) o v)
theorem zND {w:uA} {F:Nat} {c0 c1 c2 c3:uB} {t:tC} (h:w.heap[F]?=yA (.cells #[c0,c1,c2,c3] t)):w.cell? ⟨F,0,none⟩=yA c0/\w.cell? ⟨F,1,none⟩=yA c1/\w.cell? ⟨F,2,none⟩=yA c2/\w.cell? ⟨F,3,none⟩=yA c3/\w.frozen? ⟨F,1,none⟩=false/\F<w.heap.size :=
 ⟨jA h 0,jA h 1,jA h 2,jA h 3,qB h 1,eB h⟩
theorem zIa (w:uA) (a b c d e:Obj):∃ W,W=((((w.alloc a).alloc b).alloc c).alloc d).alloc e/\Below w.heap.size w W/\W.heap.size=w.heap.size+5/\W.heap[w.heap.size]?=yA a/\W.heap[w.heap.size+1]?=yA b/\W.heap[w.heap.size+2]?=yA c/\W.heap[w.heap.size+3]?=yA d/\W.heap[w.heap.size+4]?=yA e:=by
 have s1:=wB w a
 have s2:=wB (w.alloc a) b
 have s3:=wB ((w.alloc a).alloc b) c
 have s4:=wB (((w.alloc a).alloc b).alloc c) d
 have s5:=wB ((((w.alloc a).alloc b).alloc c).alloc d) e
 have b1:=wA w a
 have b2:=wA (w.alloc a) b
 have b3:=wA ((w.alloc a).alloc b) c
 have b4:=wA (((w.alloc a).alloc b).alloc c) d
 have b5:=wA ((((w.alloc a).alloc b).alloc c).alloc d) e
 have g1:=rB w a
 have g2:=rB (w.alloc a) b
 have g3:=rB ((w.alloc a).alloc b) c
 have g4:=rB (((w.alloc a).alloc b).alloc c) d
 have g5:=rB ((((w.alloc a).alloc b).alloc c).alloc d) e
 rw [s1] at g2;rw [s2,s1] at g3;rw [s3,s2,s1] at g4;rw [s4,s3,s2,s1] at g5
 refine ⟨_,rfl,b1.trans ((b2.trans ((b3.trans ((b4.trans (b5.mono (by omega))).mono (by omega))).mono (by omega))).mono (by omega)),by omega,?_,?_,?_,?_,g5⟩
 ·exact kA b5 (kA b4 (kA b3 (kA b2 g1)))
 ·exact kA b5 (kA b4 (kA b3 g2))
 ·exact kA b5 (kA b4 g3)
 ·exact kA b5 g4
end Go.Proofs.YtogbpifcmhafkaaGreat
