/-
  Part Rf of the proof.
-/
import Derived.Test.YtnljdkglncmfaaaGreatRc
import Derived.Test.YtnljdkglncmfaaaGreatVb
import Derived.Test.YtnljdkglncmfaaaGreatGp
namespace Go.Proofs.YtnljdkglncmfaaaGreat
open Go.RowKit
set_option linter.unusedVariables false
theorem bytes_zero {l:List UInt8} (h:l.length=0):l.map zX=[]:=by rw [List.eq_nil_of_length_eq_zero h];rfl
theorem bytes_len0 {l:List UInt8} (h:l.map zX=[]):l.length=0:=by simpa using h
theorem RvAt.chgO {S:List Nat} {w w':World} {R:Nat} {P:Nat → Prop} {x:Vt} (h:RvAt w R P x) (hc:Chg S w w') (hR:R ∉ S) (hP:∀ y,y<w.heap.size → P y → y ∉ S):RvAt w' R P x:=by
  obtain ⟨D,cd,A,c,g,p1,p2,p3,p4,p5,p6⟩:=h
  have q1:OutP (·<w.heap.size) D x.1.length:=row_lt p1 bytes_len0
  have q2:=p5.ltO
  refine ⟨D,cd,A,c,hc.keep g hR,row_chgO p1 hc (fun hn b o e=>hP b (q1 hn b o e) (p4 hn b o e)) bytes_zero,p2,p3,p4,p5.chgO hc (fun hn b o e=>hP b (q2 hn b o e) (p6 hn b o e)),p6⟩
theorem RvAt.monoO {w:World} {R:Nat} {P P':Nat → Prop} {x:Vt} (h:RvAt w R P x) (hP:∀ y,y<w.heap.size → P y → P' y):RvAt w R P' x:=by
  obtain ⟨D,cd,A,c,g,p1,p2,p3,p4,p5,p6⟩:=h
  have q1:OutP (·<w.heap.size) D x.1.length:=row_lt p1 bytes_len0
  have q2:=p5.ltO
  exact ⟨D,cd,A,c,g,p1,p2,p3,fun hn b o e=>hP b (q1 hn b o e) (p4 hn b o e),p5,fun hn b o e=>hP b (q2 hn b o e) (p6 hn b o e)⟩
theorem RvAt.blkR {w:World} {R:Nat} {P:Nat → Prop} {x:Vt} (h:RvAt w R P x):∃ cs,w.heap[R]?=some (.cells cs 93):=by
  obtain ⟨D,cd,A,c,g,_⟩:=h
  exact ⟨_,g⟩
theorem RvAt.move {S:List Nat} {w W:World} {R:Nat} {P P':Nat → Prop} {x:Vt} (h:RvAt w R P x) (hc:Chg S w W) (hR:R ∉ S) (h1:∀ y,y<w.heap.size → P y → y ∉ S) (h2:∀ y,y<w.heap.size → P y → P' y):RvAt W R P' x :=
  ((h.monoO (P':=fun y=>P y∧y<w.heap.size) fun y hy hp=>⟨hp,hy⟩).chgO hc hR fun y hy hp=>h1 y hy hp.1).monoO fun y _ hp=>h2 y hp.2 hp.1
structure RM where
  b:Nat
  a:RA
  v:Nat
structure RL where
  mo:Nat
  mc:Nat
  vo:Nat
  vc:Nat
  na:Option Addr
  nc:Nat
  sl:List (Option Addr × Nat)
  mem:List RM
def rft (r:RM):List Nat:=r.v :: rfoot r.b r.a
def rall (G:Nat) (L:RL):List Nat:=G :: L.mo :: L.vo :: (zU L.na ++ L.mem.flatMap rft)
def ptrM (l:List RM):List Value:=l.map fun r=>.pointer (some ⟨r.b,0,none⟩)
def ptrR (l:List RM):List Value:=l.map fun r=>.pointer (some ⟨r.v,0,none⟩)
abbrev rgC (L:RL) (g:Gr):Array Value:=#[.slice (some ⟨L.mo,0,none⟩) g.ms.length L.mc,.slice (some ⟨L.vo,0,none⟩) g.ms.length L.vc,.slice L.na g.net.length L.nc]
structure RGAt (Q:Nat → Prop) (w:World) (G:Nat) (L:RL) (g:Gr):Prop where
  blk:w.heap[G]?=some (.cells (rgC L g) 52)
  len:L.mem.length=g.ms.length
  mrow:w.ownsRow 0 53 1 (.slice (some ⟨L.mo,0,none⟩) g.ms.length L.mc) g.ms.length (ptrM L.mem)
  vrow:w.ownsRow 0 88 1 (.slice (some ⟨L.vo,0,none⟩) g.ms.length L.vc) g.ms.length (ptrR L.mem)
  mem:∀ (i:Nat) (r:RM) (p:Mb × Vt),L.mem[i]?=some r → g.ms[i]?=some p → RMAt w r.b r.a p.1∧RvAt w r.v (fun x=>x ∉ rall G L∧Q x) p.2∧OutP (fun x=>x ∉ rall G L∧Q x) r.a.la p.1.log.length
  net:w.ownsRow 0 78 9 (.slice L.na g.net.length L.nc) g.net.length (msV g.net L.sl)
  slen:L.sl.length=g.net.length
  ents:∀ k,(hk:k<g.net.length) → LogIn w (L.sl.getD k (none,0)).1 (L.sl.getD k (none,0)).2 (g.net[k]).ents∧OutP (fun x=>x ∉ rall G L∧Q x) (L.sl.getD k (none,0)).1 (g.net[k]).ents.length
  q:∀ x ∈ rall G L,Q x
  apart:∀ (i j:Nat) (r s:RM),i≠j → L.mem[i]?=some r → L.mem[j]?=some s → ∀ x ∈ rft r,x ∉ rft s
theorem zBE {w:World} {base:Nat} {e:TypeId} {size:Nat} {A:Option Addr} {m cap n:Nat} {xs:List Value} (h:w.ownsRow base e size (.slice A m cap) n xs):∀ x ∈ zU A,∃ cs,w.heap[x]?=some (.cells cs e):=fun x hx=>by
  rcases h.2 with ⟨h2,_⟩ | ⟨g,c,cur,hv,hg,hh,r⟩
  · injection h2 with h1;rw [h1] at hx;cases hx
  · injection hv with h1;rw [h1] at hx;simp only [zU,List.mem_singleton] at hx;subst hx;exact ⟨_,hh⟩
theorem rft_v (r:RM):r.v ∈ rft r:=by simp [rft]
theorem zCV {r:RM} {x:Nat} (h:x ∈ rfoot r.b r.a):x ∈ rft r:=by simp [rft,h]
theorem zCU {r:RM} {x:Nat} (h:x ∈ rft r):x=r.v∨x ∈ rfoot r.b r.a:=by simpa [rft] using h
theorem rall_G (G:Nat) (L:RL):G ∈ rall G L:=by simp [rall]
theorem rall_mo (G:Nat) (L:RL):L.mo ∈ rall G L:=by simp [rall]
theorem rall_vo (G:Nat) (L:RL):L.vo ∈ rall G L:=by simp [rall]
theorem rall_na {G:Nat} {L:RL} {x:Nat} (h:x ∈ zU L.na):x ∈ rall G L:=by simp [rall,h]
theorem zBZ {G:Nat} {L:RL} {r:RM} (hr:r ∈ L.mem) {x:Nat} (h:x ∈ rft r):x ∈ rall G L:=by
  simp only [rall,List.mem_cons,List.mem_append,List.mem_flatMap]
  exact .inr (.inr (.inr (.inr ⟨r,hr,h⟩)))
theorem rall_cases {G:Nat} {L:RL} {x:Nat} (h:x ∈ rall G L):x=G∨x=L.mo∨x=L.vo∨x ∈ zU L.na∨∃ r ∈ L.mem,x ∈ rft r:=by
  simpa only [rall,List.mem_cons,List.mem_append,List.mem_flatMap] using h
namespace RGAt
variable {Q:Nat → Prop} {w w':World} {G:Nat} {L:RL} {g:Gr}
theorem moK (h:RGAt Q w G L g):∃ cs,w.heap[L.mo]?=some (.cells cs 53):=zBE h.mrow _ (by simp [zU])
theorem voK (h:RGAt Q w G L g):∃ cs,w.heap[L.vo]?=some (.cells cs 88):=zBE h.vrow _ (by simp [zU])
theorem pOf (h:RGAt Q w G L g) {i:Nat} {r:RM} (hr:L.mem[i]?=some r):∃ p,g.ms[i]?=some p:=by
  obtain ⟨hi,_⟩:=List.getElem?_eq_some_iff.1 hr
  exact ⟨_,List.getElem?_eq_getElem (by rw [← h.len];exact hi)⟩
theorem rOf (h:RGAt Q w G L g) {i:Nat} {p:Mb × Vt} (hp:g.ms[i]?=some p):∃ r,L.mem[i]?=some r:=by
  obtain ⟨hi,_⟩:=List.getElem?_eq_some_iff.1 hp
  exact ⟨_,List.getElem?_eq_getElem (by rw [h.len];exact hi)⟩
theorem lt (h:RGAt Q w G L g):∀ x ∈ rall G L,x<w.heap.size:=fun x hx=>by
  rcases rall_cases hx with rfl | rfl | rfl | hx | ⟨r,hr,hx⟩
  · exact zB h.blk
  · obtain ⟨_,hc⟩:=h.moK;exact zB hc
  · obtain ⟨_,hc⟩:=h.voK;exact zB hc
  · obtain ⟨_,hc⟩:=zBE h.net x hx;exact zB hc
  · obtain ⟨i,hi⟩:=List.getElem?_of_mem hr
    obtain ⟨p,hp⟩:=h.pOf hi
    obtain ⟨h1,h2,_⟩:=h.mem i r p hi hp
    rcases zCU hx with rfl | hx
    · obtain ⟨_,hc⟩:=h2.blkR;exact zB hc
    · exact h1.lt x hx
theorem memK (h:RGAt Q w G L g) {r:RM} (hr:r ∈ L.mem) {x:Nat} (hx:x ∈ rft r):∃ cs t,w.heap[x]?=some (.cells cs t)∧(t=93∨t=58∨t=4∨t=3):=by
  obtain ⟨i,hi⟩:=List.getElem?_of_mem hr
  obtain ⟨p,hp⟩:=h.pOf hi
  obtain ⟨h1,h2,_⟩:=h.mem i r p hi hp
  rcases zCU hx with rfl | hx
  · obtain ⟨_,hc⟩:=h2.blkR;exact ⟨_,_,hc,.inl rfl⟩
  · simp only [rfoot,List.mem_cons,List.not_mem_nil,or_false] at hx
    rcases hx with rfl | rfl | rfl | rfl
    · exact ⟨_,_,h1.blk,.inr (.inl rfl)⟩
    · exact ⟨_,_,h1.votes,.inr (.inr (.inl rfl))⟩
    · exact ⟨_,_,h1.mat,.inr (.inr (.inr rfl))⟩
    · exact ⟨_,_,h1.nxt,.inr (.inr (.inr rfl))⟩
theorem notM (h:RGAt Q w G L g) {r:RM} (hr:r ∈ L.mem) {x:Nat} (hx:x ∈ rft r) {cs:Array Value} {t:TypeId} (hc:w.heap[x]?=some (.cells cs t)) (h1:t≠93) (h2:t≠58) (h3:t≠4) (h4:t≠3):False:=by
  obtain ⟨cs',t',hc',ht⟩:=h.memK hr hx
  rw [hc] at hc'
  injection hc' with hc'
  injection hc' with _ hc'
  subst hc'
  rcases ht with h | h | h | h
  · exact h1 h
  · exact h2 h
  · exact h3 h
  · exact h4 h
theorem notMG (h:RGAt Q w G L g) {r:RM} (hr:r ∈ L.mem) {x:Nat} (hx:x ∈ rft r):x≠G∧x≠L.mo∧x≠L.vo∧x ∉ zU L.na:=by
  refine ⟨fun e => ?_,fun e => ?_,fun e => ?_,fun e => ?_⟩
  · subst e;exact h.notM hr hx h.blk (by decide) (by decide) (by decide) (by decide)
  · obtain ⟨_,hc⟩:=h.moK;subst e;exact h.notM hr hx hc (by decide) (by decide) (by decide) (by decide)
  · obtain ⟨_,hc⟩:=h.voK;subst e;exact h.notM hr hx hc (by decide) (by decide) (by decide) (by decide)
  · obtain ⟨_,hc⟩:=zBE h.net x e;exact h.notM hr hx hc (by decide) (by decide) (by decide) (by decide)
theorem tops (h:RGAt Q w G L g):L.mo≠G∧L.vo≠G∧L.mo≠L.vo∧G ∉ zU L.na∧L.mo ∉ zU L.na∧L.vo ∉ zU L.na:=by
  obtain ⟨_,hm⟩:=h.moK
  obtain ⟨_,hv⟩:=h.voK
  refine ⟨zCA hm h.blk (by decide),zCA hv h.blk (by decide),zCA hm hv (by decide),fun e => ?_,fun e => ?_,fun e => ?_⟩
  · obtain ⟨_,hc⟩:=zBE h.net _ e;exact zCA hc h.blk (by decide) rfl
  · obtain ⟨_,hc⟩:=zBE h.net _ e;exact zCA hc hm (by decide) rfl
  · obtain ⟨_,hc⟩:=zBE h.net _ e;exact zCA hc hv (by decide) rfl
theorem chgO {S:List Nat} (h:RGAt Q w G L g) (hc:Chg S w w') (hQ:∀ x,x<w.heap.size → Q x → x ∉ S):RGAt Q w' G L g:=by
  have hr:∀ x ∈ rall G L,x ∉ S:=fun x hx=>hQ x (h.lt x hx) (h.q x hx)
  refine ⟨hc.keep h.blk (hr _ (rall_G G L)),h.len,zAL h.mrow hc fun x hx => ?_,zAL h.vrow hc fun x hx => ?_,fun i r p hri hp => ?_,zAL h.net hc fun x hx=>hr x (rall_na hx),h.slen,fun k hk => ?_,h.q,h.apart⟩
  · simp only [zU,List.mem_singleton] at hx;subst hx;exact hr _ (rall_mo G L)
  · simp only [zU,List.mem_singleton] at hx;subst hx;exact hr _ (rall_vo G L)
  · obtain ⟨h1,h2,h3⟩:=h.mem i r p hri hp
    have hm:=List.mem_of_getElem? hri
    exact ⟨h1.chg hc (fun x hx=>hr x (zBZ hm (zCV hx))) (fun hn b o e=>hQ b (h1.log.ltO hn b o e) (h3 hn b o e).2),h2.chgO hc (hr _ (zBZ hm (rft_v r))) (fun y hy hp=>hQ y hy hp.2),h3⟩
  · obtain ⟨h1,h2⟩:=h.ents k hk
    exact ⟨h1.chgO hc fun hn b o e=>hQ b (h1.ltO hn b o e) (h2 hn b o e).2,h2⟩
theorem below (h:RGAt Q w G L g) (hb:Below w.heap.size w w'):RGAt Q w' G L g:=h.chgO (S:=[]) (Chg.of_below hb) (fun x _ _ hx=>by cases hx)
theorem mono {Q':Nat → Prop} (h:RGAt Q w G L g) (hQ:∀ x,x<w.heap.size → Q x → Q' x):RGAt Q' w G L g :=
  ⟨h.blk,h.len,h.mrow,h.vrow,fun i r p hri hp=>by
    obtain ⟨h1,h2,h3⟩:=h.mem i r p hri hp
    exact ⟨h1,h2.monoO fun y hy hp=>⟨hp.1,hQ y hy hp.2⟩,fun hn b o e=>⟨(h3 hn b o e).1,hQ b (h1.log.ltO hn b o e) (h3 hn b o e).2⟩⟩,h.net,h.slen,fun k hk=>by
    obtain ⟨h1,h2⟩:=h.ents k hk
    exact ⟨h1,fun hn b o e=>⟨(h2 hn b o e).1,hQ b (h1.ltO hn b o e) (h2 hn b o e).2⟩⟩,fun x hx=>hQ x (h.lt x hx) (h.q x hx),h.apart⟩
end RGAt
structure RGStep (w:World) (G:Nat) (L:RL) (w':World) (L':RL):Prop where
  chg:Chg (rall G L) w w'
  sub:∀ x ∈ rall G L',x ∈ rall G L∨w.heap.size≤x
theorem RGStep.refl (w:World) (G:Nat) (L:RL):RGStep w G L w L:=⟨Chg.refl _ _,fun x hx=>.inl hx⟩
theorem RGStep.of_below {w w':World} {G:Nat} {L:RL} (h:Below w.heap.size w w'):RGStep w G L w' L:=⟨Chg.of_below h,fun x hx=>.inl hx⟩
theorem RGStep.trans {w w1 w2:World} {G:Nat} {L L1 L2:RL} (h:RGStep w G L w1 L1) (k:RGStep w1 G L1 w2 L2):RGStep w G L w2 L2 :=
  ⟨h.chg.trans k.chg h.sub,fun x hx=>by
    rcases k.sub x hx with h1 | h1
    · exact h.sub x h1
    · exact .inr (Nat.le_trans h.chg.size h1)⟩
theorem RGStep.below {w w1 w2:World} {G:Nat} {L L1:RL} (h:RGStep w G L w1 L1) (k:Below w1.heap.size w1 w2):RGStep w G L w2 L1:=h.trans (.of_below k)
theorem RGStep.pre {w w1 w2:World} {G:Nat} {L L1:RL} (k:Below w.heap.size w w1) (h:RGStep w1 G L w2 L1):RGStep w G L w2 L1:=(RGStep.of_below k).trans h
theorem mem_setR {α:Type} {l:List α} {i:Nat} {x y:α} (h:y ∈ l.set i x):y=x∨y ∈ l:=by
  rcases List.mem_or_eq_of_mem_set h with h | h
  · exact .inr h
  · exact .inl h
theorem get_setR {α:Type} {l:List α} {i j:Nat} {x y:α} (h:(l.set i x)[j]?=some y):(j=i∧y=x∧i<l.length)∨(j≠i∧l[j]?=some y):=by
  rw [List.getElem?_set] at h
  by_cases hij:i=j
  · rw [if_pos hij] at h
    by_cases hl:i<l.length
    · rw [if_pos hl] at h
      injection h with h
      exact .inl ⟨hij.symm,h.symm,hl⟩
    · rw [if_neg hl] at h;cases h
  · rw [if_neg hij] at h
    exact .inr ⟨fun e=>hij e.symm,h⟩
namespace RGAt
variable {Q:Nat → Prop} {w W:World} {G:Nat} {L:RL} {g:Gr}
theorem swap (h : RGAt Q w G L g) {i : Nat} {r r' : RM} {p : Mb × Vt} (hr : L.mem[i]? = some r) (hp : g.ms[i]? = some p) {m1 : Mb} (hv : r'.v = r.v) {S : List Nat} (hC : Chg S w W) (hS : ∀ x ∈ S, x = L.mo ∨ x ∈ rfoot r.b r.a)
    (hrow:W.ownsRow 0 53 1 (.slice (some ⟨L.mo,0,none⟩) g.ms.length L.mc) g.ms.length (ptrM (L.mem.set i r'))) (hM:RMAt W r'.b r'.a m1) (hfoot:∀ x ∈ rfoot r'.b r'.a,x ∈ rfoot r.b r.a∨w.heap.size≤x)
    (hlog:OutP (fun x=>(x ∉ rall G L∧Q x∧x<w.heap.size)∨w.heap.size≤x) r'.a.la m1.log.length) (hQ:∀ x,w.heap.size≤x → Q x) :
    RGAt Q W G { L with mem:=L.mem.set i r' } ⟨g.ms.set i (m1,p.2),g.net⟩∧RGStep w G L W { L with mem:=L.mem.set i r' }:=by
  have hrm:r ∈ L.mem:=List.mem_of_getElem? hr
  obtain ⟨hr1,hr2,hr3⟩:=h.mem i r p hr hp
  obtain ⟨t1,t2,t3,t4,t5,t6⟩:=h.tops
  have hSr:∀ x ∈ S,x ∈ rall G L:=fun x hx=>by
    rcases hS x hx with rfl | h1
    · exact rall_mo G L
    · exact zBZ hrm (zCV h1)
  have hGS:G ∉ S:=fun hx=>by
    rcases hS G hx with h1 | h1
    · exact t1 h1.symm
    · exact (h.notMG hrm (zCV h1)).1 rfl
  have hvoS:L.vo ∉ S:=fun hx=>by
    rcases hS _ hx with h1 | h1
    · exact t3 h1.symm
    · exact (h.notMG hrm (zCV h1)).2.2.1 rfl
  have hnaS:∀ x ∈ zU L.na,x ∉ S:=fun x hn hx=>by
    rcases hS x hx with h1 | h1
    · exact t5 (h1 ▸ hn)
    · exact (h.notMG hrm (zCV h1)).2.2.2 hn
  have hothS:∀ j s,j≠i → L.mem[j]?=some s → ∀ x ∈ rft s,x ∉ S:=fun j s hj hs x hx hc=>by
    rcases hS x hc with h1 | h1
    · exact (h.notMG (List.mem_of_getElem? hs) hx).2.1 h1
    · exact h.apart j i s r hj hs hr x hx (zCV h1)
  have hvr:r.v ∉ S:=fun hx=>by
    rcases hS _ hx with h1 | h1
    · exact (h.notMG hrm (rft_v r)).2.1 h1
    · obtain ⟨cs,hc⟩:=hr2.blkR
      simp only [rfoot,List.mem_cons,List.not_mem_nil,or_false] at h1
      rcases h1 with e | e | e | e
      · rw [e] at hc;exact zCA hc hr1.blk (by decide) rfl
      · rw [e] at hc;exact zCA hc hr1.votes (by decide) rfl
      · rw [e] at hc;exact zCA hc hr1.mat (by decide) rfl
      · rw [e] at hc;exact zCA hc hr1.nxt (by decide) rfl
  have hsub:∀ x ∈ rall G { L with mem:=L.mem.set i r' },x ∈ rall G L∨w.heap.size≤x:=fun x hx=>by
    rcases rall_cases hx with rfl | rfl | rfl | hx1 | ⟨s,hs,hx1⟩
    · exact .inl (rall_G _ _)
    · exact .inl (rall_mo G L)
    · exact .inl (rall_vo G L)
    · exact .inl (rall_na hx1)
    · rcases mem_setR hs with e | hs1
      · rw [e] at hx1
        rcases zCU hx1 with e1 | hx2
        · rw [e1,hv];exact .inl (zBZ hrm (rft_v r))
        · rcases hfoot x hx2 with h1 | h1
          · exact .inl (zBZ hrm (zCV h1))
          · exact .inr h1
      · exact .inl (zBZ hs1 hx1)
  have hnew:∀ x,x<w.heap.size → x ∉ rall G L∧Q x → x ∉ rall G { L with mem:=L.mem.set i r' }∧Q x:=fun x hx hp=>⟨fun hc=>by
    rcases hsub x hc with h1 | h1
    · exact hp.1 h1
    · omega,hp.2⟩
  have hbig:∀ x,w.heap.size≤x → x ∈ rall G { L with mem:=L.mem.set i r' } → x ∈ rfoot r'.b r'.a:=fun x hx hc=>by
    rcases rall_cases hc with rfl | rfl | rfl | hc1 | ⟨s,hs,hc1⟩
    · have:=h.lt _ (rall_G x L);omega
    · have:=h.lt _ (rall_mo G L);simp only at hx;omega
    · have:=h.lt _ (rall_vo G L);simp only at hx;omega
    · have:=h.lt _ (rall_na hc1);omega
    · rcases mem_setR hs with e | hs1
      · rw [e] at hc1
        rcases zCU hc1 with e1 | hc2
        · have:=h.lt _ (zBZ hrm (rft_v r));rw [← hv,← e1] at this;omega
        · exact hc2
      · have:=h.lt _ (zBZ hs1 hc1);omega
  refine ⟨⟨?_,?_,?_,?_,?_,?_,h.slen,?_,?_,?_⟩,hC.mono fun x hx=>.inl (hSr x hx),hsub⟩
  · have:=hC.keep h.blk hGS
    simp only [rgC,List.length_set]
    exact this
  · simp only [List.length_set];exact h.len
  · simp only [List.length_set];exact hrow
  · have e:ptrR (L.mem.set i r')=ptrR L.mem:=by
      unfold ptrR
      rw [List.map_set]
      exact set_same (by rw [List.getElem?_map,hr,hv];rfl)
    simp only [List.length_set,e]
    exact zAL h.vrow hC fun x hx=>by simp only [zU,List.mem_singleton] at hx;subst hx;exact hvoS
  · intro j s p' hs hp'
    rcases get_setR hs with ⟨rfl,rfl,_⟩ | ⟨hj,hs⟩
    · rcases get_setR hp' with ⟨_,rfl,_⟩ | ⟨hj,_⟩
      · refine ⟨hM,?_,?_⟩
        · rw [hv]
          exact hr2.move hC hvr (fun y hy hq hc=>hq.1 (hSr y hc)) hnew
        · intro hn b o e
          have h1:=hlog hn b o e
          have h2:=hM.lout hn b o e
          rcases h1 with ⟨h1,h3,h4⟩ | h1
          · exact hnew b h4 ⟨h1,h3⟩
          · exact ⟨fun hc=>h2 (hbig b h1 hc),hQ b h1⟩
      · exact (hj rfl).elim
    · rcases get_setR hp' with ⟨e,_,_⟩ | ⟨_,hp'⟩
      · exact (hj e).elim
      · obtain ⟨h1,h2,h3⟩:=h.mem j s p' hs hp'
        have ho:=hothS j s hj hs
        refine ⟨h1.chg hC (fun x hx=>ho x (zCV hx)) (h3.mono fun x hx hc=>hx.1 (hSr x hc)),?_,fun hn b o e=>hnew b (h1.log.ltO hn b o e) (h3 hn b o e)⟩
        exact h2.move hC (ho _ (rft_v s)) (fun y hy hq hc=>hq.1 (hSr y hc)) hnew
  · exact zAL h.net hC hnaS
  · intro k hk
    obtain ⟨h1,h2⟩:=h.ents k hk
    exact ⟨h1.chgO hC (h2.mono fun x hx hc=>hx.1 (hSr x hc)),fun hn b o e=>hnew b (h1.ltO hn b o e) (h2 hn b o e)⟩
  · intro x hx
    rcases hsub x hx with h1 | h1
    · exact h.q x h1
    · exact hQ x h1
  · intro j k s u hjk hs hu x hx hc
    rcases get_setR hs with ⟨e1,e2,_⟩ | ⟨hj,hs1⟩
    · rw [e2] at hx
      rcases get_setR hu with ⟨e,_,_⟩ | ⟨hk,hu1⟩
      · exact hjk (e1.trans e.symm)
      · rw [e1] at hjk
        rcases zCU hx with e | hx1
        · rw [hv] at e
          exact h.apart i k r u hjk hr hu1 x (e ▸ rft_v r) hc
        · rcases hfoot x hx1 with h1 | h1
          · exact h.apart i k r u hjk hr hu1 x (zCV h1) hc
          · have:=h.lt _ (zBZ (List.mem_of_getElem? hu1) hc);omega
    · rcases get_setR hu with ⟨e1,e2,_⟩ | ⟨hk,hu1⟩
      · rw [e2] at hc
        rw [e1] at hjk
        rcases zCU hc with e | hc1
        · rw [hv] at e
          exact h.apart j i s r hjk hs1 hr x hx (e ▸ rft_v r)
        · rcases hfoot x hc1 with h1 | h1
          · exact h.apart j i s r hjk hs1 hr x hx (zCV h1)
          · have:=h.lt _ (zBZ (List.mem_of_getElem? hs1) hx);omega
      · exact h.apart j k s u hjk hs1 hu1 x hx hc
theorem memTo (h:RGAt Q w G L g) {i:Nat} {r:RM} {p:Mb × Vt} (hr:L.mem[i]?=some r) (hp:g.ms[i]?=some p) {a1:RA} {m1:Mb} (hM:RMAt W r.b a1 m1) (hS:RStep w r.b r.a p.1 W a1 m1) (hQ:∀ x,w.heap.size≤x → Q x) :
    RGAt Q W G { L with mem:=L.mem.set i ⟨r.b,a1,r.v⟩ } ⟨g.ms.set i (m1,p.2),g.net⟩∧RGStep w G L W { L with mem:=L.mem.set i ⟨r.b,a1,r.v⟩ }:=by
  obtain ⟨hr1,hr2,hr3⟩:=h.mem i r p hr hp
  have hrm:r ∈ L.mem:=List.mem_of_getElem? hr
  refine h.swap hr hp rfl hS.chg (fun x hx=>.inr hx) ?_ hM hS.sub ?_ hQ
  · have e:ptrM (L.mem.set i ⟨r.b,a1,r.v⟩)=ptrM L.mem:=by
      unfold ptrM
      rw [List.map_set]
      exact set_same (by rw [List.getElem?_map,hr];rfl)
    rw [e]
    exact zAL h.mrow hS.chg fun x hx=>by
      simp only [zU,List.mem_singleton] at hx
      subst hx
      exact fun hc=>(h.notMG hrm (zCV hc)).2.1 rfl
  · exact hS.log _ (fun x hx=>.inr hx) fun hn b o e=>.inl ⟨(hr3 hn b o e).1,(hr3 hn b o e).2,hr1.log.ltO hn b o e⟩
theorem renew (h:RGAt Q w G L g) {i:Nat} {r:RM} {p:Mb × Vt} (hr:L.mem[i]?=some r) (hp:g.ms[i]?=some p) {w1:World} (hb:Below w.heap.size w w1) {b1:Nat} {a1:RA} {m1:Mb} (hM:RMAt w1 b1 a1 m1) (hf:∀ x ∈ rfoot b1 a1,w.heap.size≤x)
    (hlog:OutP (fun x=>(x ∉ rall G L∧Q x∧x<w.heap.size)) a1.la m1.log.length) (hQ:∀ x,w.heap.size≤x → Q x) :
    RGAt Q (w1.setCell ⟨L.mo,i,none⟩ (.pointer (some ⟨b1,0,none⟩))) G { L with mem:=L.mem.set i ⟨b1,a1,r.v⟩ } ⟨g.ms.set i (m1,p.2),g.net⟩∧RGStep w G L (w1.setCell ⟨L.mo,i,none⟩ (.pointer (some ⟨b1,0,none⟩))) { L with mem:=L.mem.set i ⟨b1,a1,r.v⟩ }:=by
  have hmo:=h.lt _ (rall_mo G L)
  have hne:∀ x ∈ rfoot b1 a1,x≠L.mo:=fun x hx e=>by have:=hf x hx;omega
  refine h.swap (S:=[L.mo]) hr hp rfl ((Chg.of_below hb).setCell (.inl (by simp)) _ _) (fun x hx=>.inl (by simpa using hx)) ?_ ?_ (fun x hx=>.inr (hf x hx)) (hlog.mono fun x hx=>.inl hx) hQ
  · have e:ptrM (L.mem.set i ⟨b1,a1,r.v⟩)=(ptrM L.mem).set i (.pointer (some ⟨b1,0,none⟩)):=by unfold ptrM;rw [List.map_set]
    rw [e]
    exact own_setIn (zD h.mrow hb) i _
  · exact hM.chg (S:=[L.mo]) ((Chg.refl _ _).setCell (.inl (by simp)) _ _) (fun x hx hc=>hne x hx (by simpa using hc)) (hlog.mono fun x hx hc=>hx.1 (by simp only [List.mem_singleton] at hc;rw [hc];exact rall_mo G L))
theorem disk (h : RGAt Q w G L g) {i : Nat} {r : RM} {p : Mb × Vt} (hr : L.mem[i]? = some r) (hp : g.ms[i]? = some p) {x1 : Vt} (hO : Only r.v w W) (hV : RvAt W r.v (fun x => x ∉ rall G L ∧ Q x) x1) :
    RGAt Q W G L ⟨g.ms.set i (p.1,x1),g.net⟩∧RGStep w G L W L:=by
  obtain ⟨hr1,hr2,hr3⟩:=h.mem i r p hr hp
  have hrm:r ∈ L.mem:=List.mem_of_getElem? hr
  have hC:Chg [r.v] w W:=⟨hO.os,hO.tape,hO.output,hO.size,fun k hk hne=>hO.block k hk (by simpa using hne)⟩
  obtain ⟨n1,n2,n3,n4⟩:=h.notMG hrm (rft_v r)
  have hvk:r.v ∉ rfoot r.b r.a:=fun h1=>by
    obtain ⟨cs,hc⟩:=hr2.blkR
    simp only [rfoot,List.mem_cons,List.not_mem_nil,or_false] at h1
    rcases h1 with e | e | e | e
    · rw [e] at hc;exact zCA hc hr1.blk (by decide) rfl
    · rw [e] at hc;exact zCA hc hr1.votes (by decide) rfl
    · rw [e] at hc;exact zCA hc hr1.mat (by decide) rfl
    · rw [e] at hc;exact zCA hc hr1.nxt (by decide) rfl
  have hin:∀ x,x ∈ [r.v] → x ∈ rall G L:=fun x hx=>by simp only [List.mem_singleton] at hx;subst hx;exact zBZ hrm (rft_v r)
  refine ⟨⟨?_,?_,?_,?_,?_,zAL h.net hC fun x hx hc=>n4 (by simp only [List.mem_singleton] at hc;rw [← hc];exact hx),h.slen,fun k hk => ?_,h.q,h.apart⟩,hC.mono fun x hx=>.inl (hin x hx),fun x hx=>.inl hx⟩
  · simp only [rgC,List.length_set]
    exact hC.keep h.blk (by simpa using n1.symm)
  · simp only [List.length_set];exact h.len
  · simp only [List.length_set]
    exact zAL h.mrow hC fun x hx hc=>by simp only [zU,List.mem_singleton] at hx hc;exact n2 (hc.symm.trans hx)
  · simp only [List.length_set]
    exact zAL h.vrow hC fun x hx hc=>by simp only [zU,List.mem_singleton] at hx hc;exact n3 (hc.symm.trans hx)
  · intro j s p' hs hp'
    rcases get_setR hp' with ⟨rfl,rfl,_⟩ | ⟨hj,hp'⟩
    · rw [hr] at hs
      injection hs with hs
      subst hs
      exact ⟨hr1.chg hC (fun x hx hc=>hvk (by simp only [List.mem_singleton] at hc;rw [← hc];exact hx)) (hr3.mono fun x hx hc=>hx.1 (hin x hc)),hV,hr3⟩
    · obtain ⟨h1,h2,h3⟩:=h.mem j s p' hs hp'
      have ho:∀ x ∈ rft s,x ∉ [r.v]:=fun x hx hc=>by
        simp only [List.mem_singleton] at hc
        exact h.apart j i s r hj hs hr x hx (hc ▸ rft_v r)
      exact ⟨h1.chg hC (fun x hx=>ho x (zCV hx)) (h3.mono fun x hx hc=>hx.1 (hin x hc)),h2.chgO hC (ho _ (rft_v s)) fun y hy hq hc=>hq.1 (hin y hc),h3⟩
  · obtain ⟨h1,h2⟩:=h.ents k hk
    exact ⟨h1.chgO hC (h2.mono fun x hx hc=>hx.1 (hin x hc)),h2⟩
theorem netTo (h : RGAt Q w G L g) {w1 : World} {na : Option Addr} {nc : Nat} {l : List Ms} {sl : List (Option Addr × Nat)} (hC : Chg (zU L.na) w w1) (hown : w1.ownsRow 0 78 9 (.slice na l.length nc) l.length (msV l sl)) (hsl : sl.length = l.length)
    (hents:∀ k,(hk:k<l.length) → LogIn w1 (sl.getD k (none,0)).1 (sl.getD k (none,0)).2 (l[k]).ents∧OutP (fun x=>(x ∉ rall G L∧Q x∧x<w.heap.size)∨(w.heap.size≤x∧x ∉ zU na)) (sl.getD k (none,0)).1 (l[k]).ents.length)
    (hna:∀ x ∈ zU na,x ∈ zU L.na∨w.heap.size≤x) (hQ:∀ x,w.heap.size≤x → Q x) :
    RGAt Q (w1.setCell ⟨G,2,none⟩ (.slice na l.length nc)) G { L with na:=na,nc:=nc,sl:=sl } ⟨g.ms,l⟩∧RGStep w G L (w1.setCell ⟨G,2,none⟩ (.slice na l.length nc)) { L with na:=na,nc:=nc,sl:=sl }:=by
  obtain ⟨t1,t2,t3,t4,t5,t6⟩:=h.tops
  have hG1:=hC.keep h.blk t4
  have hC1:Chg [G] w1 (w1.setCell ⟨G,2,none⟩ (.slice na l.length nc)):=(Chg.refl _ _).setCell (.inl (by simp)) _ _
  have hC2:Chg (G :: zU L.na) w (w1.setCell ⟨G,2,none⟩ (.slice na l.length nc)):=(hC.mono fun x hx=>.inl (List.mem_cons_of_mem _ hx)).setCell (.inl (by simp)) _ _
  have hSr:∀ x ∈ G :: zU L.na,x ∈ rall G L:=fun x hx=>by
    rcases List.mem_cons.1 hx with rfl | hx
    · exact rall_G _ _
    · exact rall_na hx
  have hsub:∀ x ∈ rall G { L with na:=na,nc:=nc,sl:=sl },x ∈ rall G L∨(w.heap.size≤x∧x ∈ zU na):=fun x hx=>by
    rcases rall_cases hx with rfl | rfl | rfl | hx | ⟨s,hs,hx⟩
    · exact .inl (rall_G _ _)
    · exact .inl (rall_mo G L)
    · exact .inl (rall_vo G L)
    · rcases hna x hx with h1 | h1
      · exact .inl (rall_na h1)
      · exact .inr ⟨h1,hx⟩
    · exact .inl (zBZ (L:=L) hs hx)
  have hnew:∀ x,x<w.heap.size → x ∉ rall G L∧Q x → x ∉ rall G { L with na:=na,nc:=nc,sl:=sl }∧Q x:=fun x hx hp=>⟨fun hc=>by
    rcases hsub x hc with h1 | h1
    · exact hp.1 h1
    · omega,hp.2⟩
  refine ⟨⟨?_,h.len,?_,?_,?_,?_,hsl,?_,?_,h.apart⟩,hC2.mono fun x hx=>.inl (hSr x hx),fun x hx=>(hsub x hx).imp id (·.1)⟩
  · exact zQ (i:=2) hG1 _
  · exact zAL h.mrow hC2 fun x hx hc=>by
      simp only [zU,List.mem_singleton] at hx
      subst hx
      rcases List.mem_cons.1 hc with h1 | h1
      · exact t1 h1
      · exact t5 h1
  · exact zAL h.vrow hC2 fun x hx hc=>by
      simp only [zU,List.mem_singleton] at hx
      subst hx
      rcases List.mem_cons.1 hc with h1 | h1
      · exact t2 h1
      · exact t6 h1
  · intro j s p' hs hp'
    obtain ⟨h1,h2,h3⟩:=h.mem j s p' hs hp'
    have hm:=List.mem_of_getElem? hs
    have ho:∀ x ∈ rft s,x ∉ G :: zU L.na:=fun x hx hc=>by
      obtain ⟨n1,_,_,n4⟩:=h.notMG hm hx
      rcases List.mem_cons.1 hc with h1 | h1
      · exact n1 h1
      · exact n4 h1
    exact ⟨h1.chg hC2 (fun x hx=>ho x (zCV hx)) (h3.mono fun x hx hc=>hx.1 (hSr x hc)),h2.move hC2 (ho _ (rft_v s)) (fun y hy hq hc=>hq.1 (hSr y hc)) hnew,fun hn b o e=>hnew b (h1.log.ltO hn b o e) (h3 hn b o e)⟩
  · exact zAL hown hC1 fun x hx hc=>by
      simp only [List.mem_singleton] at hc
      obtain ⟨cs,hk⟩:=zBE hown x hx
      rw [hc] at hk
      exact zCA hk hG1 (by decide) rfl
  · intro k hk
    obtain ⟨h1,h2⟩:=hents k hk
    have h3:OutP (fun x=>x ∉ rall G { L with na:=na,nc:=nc,sl:=sl }∧Q x) (sl.getD k (none,0)).1 (l[k]).ents.length:=h2.mono fun x hx=>by
      rcases hx with ⟨q1,q2,q3⟩ | ⟨q1,q2⟩
      · exact hnew x q3 ⟨q1,q2⟩
      · refine ⟨fun hc => ?_,hQ x q1⟩
        rcases hsub x hc with h4 | h4
        · have:=h.lt x h4;omega
        · exact q2 h4.2
    exact ⟨h1.chgO hC1 (h3.mono fun x hx hc=>hx.1 (by simp only [List.mem_singleton] at hc;rw [hc];exact rall_G _ _)),h3⟩
  · intro x hx
    rcases hsub x hx with h1 | h1
    · exact h.q x h1
    · exact hQ x h1.1
end RGAt
theorem alloc4R (w:World) (o1 o2 o3 o4:Obj):((((w.alloc o1).alloc o2).alloc o3).alloc o4).drew.heap[w.heap.size]?=some o1∧((((w.alloc o1).alloc o2).alloc o3).alloc o4).drew.heap[w.heap.size+1]?=some o2∧((((w.alloc o1).alloc o2).alloc o3).alloc o4).drew.heap[w.heap.size+1+1]?=some o3∧((((w.alloc o1).alloc o2).alloc o3).alloc o4).drew.heap[w.heap.size+1+1+1]?=some o4∧Below w.heap.size w ((((w.alloc o1).alloc o2).alloc o3).alloc o4).drew:=by
  obtain ⟨⟨h1,h2,h3⟩,hz,hb⟩:=alloc3 w o1 o2 o3
  have h4:=zG (((w.alloc o1).alloc o2).alloc o3) o4
  rw [hz] at h4
  exact ⟨zH h1 o4,zH h2 o4,zH h3 o4,h4,(hb.alloc (by rw [hz];omega) o4).drew⟩
def RetRNew (m:Mb) (A:Option Addr) (w:World) (en:Ending) (w':World):Prop:=∃ b a,en=.returned (.tuple #[.pointer (some ⟨b,0,none⟩),.int .i64 0])∧a.la=A∧RMAt w' b a m∧(∀ x ∈ rfoot b a,w.heap.size≤x)∧Below w.heap.size w w'
theorem RMAt.made {w W:World} {b va ma na n:Nat} {id t v:Int} {es:List En} {la:Option Addr} {lc:Nat} (hW:Below w.heap.size w W) (hl:LogIn w la lc es) (gb:W.heap[b]?=some (.cells #[.int .i64 id,.int .i64 (n:Nat),.int .i64 t,.int .i64 v,.int .i64 0,.int .i64 0,.slice la es.length lc,.int .i64 0,.int .i64 0,.slice (some ⟨va,0,none⟩) n n,.slice (some ⟨ma,0,none⟩) n n,.slice (some ⟨na,0,none⟩) n n] 58))
    (g1:W.heap[va]?=some (.cells (Array.replicate n (.bool false)) 4)) (g2:W.heap[ma]?=some (.cells (Array.replicate n (.int .i64 0)) 3)) (g3:W.heap[na]?=some (.cells (Array.replicate n (.int .i64 0)) 3)) (hne:ma≠na)
    (h0:w.heap.size≤b∧w.heap.size≤va∧w.heap.size≤ma∧w.heap.size≤na):RMAt W b ⟨la,lc,va,ma,na⟩ (zBY id n t v es)∧(∀ x ∈ rfoot b ⟨la,lc,va,ma,na⟩,w.heap.size≤x):=by
  have hf:∀ x ∈ rfoot b ⟨la,lc,va,ma,na⟩,w.heap.size≤x:=fun x hx=>by
    simp only [rfoot,List.mem_cons,List.not_mem_nil,or_false] at hx
    omega
  refine ⟨⟨?_,hl.below hW,hl.ltO.mono fun x hx hc=>by have h9:x<w.heap.size:=hx;have:=hf x hc;omega,?_,?_,?_,fun v hv=>by simp [zBY] at hv,hne⟩,hf⟩
  · simp only [rmC,zBY,List.length_replicate]
    exact gb
  · have e:zDE (zBY id n t v es)=List.replicate n (.bool false):=by simp only [zDE,zBY,List.not_mem_nil,decide_false,List.map_const',List.length_range,List.length_replicate]
    rw [e,List.toArray_replicate];exact g1
  · have e:matV (zBY id n t v es)=List.replicate n (.int .i64 0):=by simp only [matV,zBY,List.map_replicate]
    rw [e,List.toArray_replicate];exact g2
  · have e:nxtV (zBY id n t v es)=List.replicate n (.int .i64 0):=by simp only [nxtV,zBY,List.map_replicate]
    rw [e,List.toArray_replicate];exact g3
set_option maxRecDepth 100000 in
set_option maxHeartbeats 6400000 in
theorem rnew_yes (id t v:Int) (n:Nat) (la:Option Addr) (lc:Nat) (es:List En) (w:World) (hl:LogIn w la lc es) (hyes:newOk id n t v 0 0 es=true) :
    Calls Tryz.prog 42 #[.int .i64 id,.int .i64 n,zV t v,logV 0 0 la es.length lc] w (RetRNew (zBY id n t v es) la w):=by
  have HL:Hid (∀ W,Below w.heap.size w W → Calls Tryz.prog 75 #[logV 0 0 la es.length lc] W fun e w'=>e=.returned (.tuple #[.int .i64 (lastF 0 0 es).1,.int .i64 (lastF 0 0 es).2])∧Below W.heap.size W w'):=fun W h=>zBX 0 0 la lc es W (hl.below h)
  have HV:Hid (∀ W,Calls Tryz.prog 73 #[zV t v] W fun e w'=>e=.returned (.bool (mayV t v))∧Below W.heap.size W w'):=fun W=>refMayV_any t v W
  have HM:Hid (∀ W,Below w.heap.size w W → Calls Tryz.prog 74 #[logV 0 0 la es.length lc] W fun e w'=>e=.returned (.bool (mayL 0 0 es))∧Below W.heap.size W w'):=fun W h=>refMay_any 0 0 la lc es W (hl.below h)
  unfold newOk at hyes
  rw [decide_eq_true_eq] at hyes
  obtain ⟨hn1,hn16,hid1,hidn,hV,hM,_,hL2⟩:=hyes
  rw [hV] at HV
  rw [hM] at HM
  have HLI:=Lib.hid hl
  clear hl hV hM
  generalize lastF 0 0 es=LL at HL hL2
  obtain ⟨L1,L2⟩:=LL
  simp only at HL hL2
  have hal:=zAE w (.cells #[.int .i64 t,.int .i64 v] 34) (.cells #[.int .i64 0,.int .i64 0,.slice la es.length lc] 55)
  have g0:=zT w (.cells #[.int .i64 t,.int .i64 v] 34) (.cells #[.int .i64 0,.int .i64 0,.slice la es.length lc] 55)
  have g1:=zR w (.cells #[.int .i64 t,.int .i64 v] 34) (.cells #[.int .i64 0,.int .i64 0,.slice la es.length lc] 55)
  obtain ⟨hc0,hc1,hf0,hf1,hlt⟩:=box2 g0
  obtain ⟨lc0,lc1,lc2,lf0,lf1,lf2,llt⟩:=box3 g1
  have hmb:=rmake_bool n (by omega)
  have hmi:=rmake_int n (by omega)
  go_enter Tryz.func42,Tryz.ntmps42
  go_upto_region 6 with (first
    | (go_at_call 73;refine (HV.out _).mono ?_;rintro e w1 ⟨rfl,hb1⟩;have hw1:=hal.trans (hb1.mono hal.size);have G0:=zA hb1 g0;have G1:=zA hb1 g1;obtain ⟨xc0,xc1,xf0,xf1,xlt⟩:=box2 G0;obtain ⟨yc0,yc1,yc2,yf0,yf1,yf2,ylt⟩:=box3 G1)
    | (go_at_call 74;refine (HM.out _ hw1).mono ?_;rintro e w2 ⟨rfl,hb2⟩;have hw2:=hw1.trans (hb2.mono hw1.size);have K0:=zA hb2 G0;have K1:=zA hb2 G1;obtain ⟨kc0,kc1,kf0,kf1,klt⟩:=box2 K0;obtain ⟨jc0,jc1,jc2,jf0,jf1,jf2,jlt⟩:=box3 K1)
    | (go_at_call 75;refine (HL.out _ hw2).mono ?_;rintro e w3 ⟨rfl,hb3⟩;have hw3:=hw2.trans (hb3.mono hw2.size);have N0:=zA hb3 K0;have N1:=zA hb3 K1;obtain ⟨nc0,nc1,nf0,nf1,nlt⟩:=box2 N0;obtain ⟨mc0,mc1,mc2,mf0,mf1,mf2,mlt⟩:=box3 N1))
  clear hc0 hc1 hf0 hf1 hlt lc0 lc1 lc2 lf0 lf1 lf2 llt xc0 xc1 xf0 xf1 xlt yc0 yc1 yc2 yf0 yf1 yf2 ylt kc0 kc1 kf0 kf1 klt jc0 jc1 jc2 jf0 jf1 jf2 jlt
  go_cut [8,9] (fun p q wx=>∃ bb aa,p=.pointer (some ⟨bb,0,none⟩)∧q=.int .i64 0∧aa.la=la∧RMAt wx bb aa (zBY id n t v es)∧(∀ x ∈ rfoot bb aa,w.heap.size≤x)∧Below w.heap.size w wx)
  case rest =>
    obtain ⟨bb,aa,rfl,rfl,hla,HMM,hF,hB⟩:=hcut
    go_wp2
    go_ret2
    exact ⟨bb,aa,rfl,hla,HMM,hF,hB⟩
  case first =>
    have hSk:∀ Z,Below w3.heap.size w3 Z → Z.cell? ⟨w.heap.size,0,none⟩=some (.int .i64 t)∧Z.cell? ⟨w.heap.size,1,none⟩=some (.int .i64 v)∧Z.cell? ⟨w.heap.size+1,0,none⟩=some (.int .i64 0)∧Z.cell? ⟨w.heap.size+1,1,none⟩=some (.int .i64 0)∧Z.cell? ⟨w.heap.size+1,2,none⟩=some (.slice la es.length lc):=fun Z h=>⟨zE (zA h N0) 0,zE (zA h N0) 1,zE (zA h N1) 0,zE (zA h N1) 1,zE (zA h N1) 2⟩
    go_region_held3 (fun W=>W.cell? ⟨w.heap.size,0,none⟩=some (.int .i64 t)∧W.cell? ⟨w.heap.size,1,none⟩=some (.int .i64 v)∧W.cell? ⟨w.heap.size+1,0,none⟩=some (.int .i64 0)∧W.cell? ⟨w.heap.size+1,1,none⟩=some (.int .i64 0)∧W.cell? ⟨w.heap.size+1,2,none⟩=some (.slice la es.length lc)) ((refine hSk _ ?_;repeat' (first | exact Below.refl _ _ | refine Below.drew ?_ | refine Below.alloc ?_ ?_ _ | (simp;done) | (simp;omega)))) (fail)
    all_goals (go_wp2_with fail;go_meet)
    all_goals have hz3:=hw3.size
    all_goals (first
      | (obtain ⟨q1,q2,q3,q4,q5⟩:=alloc4R w3 (.cells (Array.replicate n (.bool false)) 4) (.cells (Array.replicate n (.int .i64 0)) 3) (.cells (Array.replicate n (.int .i64 0)) 3) (.cells #[.int .i64 id,.int .i64 (n:Nat),.int .i64 t,.int .i64 v,.int .i64 0,.int .i64 0,.slice la es.length lc,.int .i64 0,.int .i64 0,.slice (some ⟨w3.heap.size,0,none⟩) n n,.slice (some ⟨w3.heap.size+1,0,none⟩) n n,.slice (some ⟨w3.heap.size+1+1,0,none⟩) n n] 58);obtain ⟨r1,r2⟩:=RMAt.made (hw3.trans (q5.mono hw3.size)) HLI.out q4 q1 q2 q3 (by omega) (by omega);exact ⟨_,_,rfl,rfl,rfl,r1,r2,hw3.trans (q5.mono hw3.size)⟩)
      | (obtain ⟨q1,q2,q3,q4,q5⟩:=alloc4R w3 (.cells (Array.replicate n (.bool false)) 4) (.cells (Array.replicate n (.int .i64 0)) 3) (.cells (Array.replicate n (.int .i64 0)) 3) (.cells #[.int .i64 id,.int .i64 (n:Nat),.int .i64 t,.int .i64 v,.int .i64 0,.int .i64 0,.slice la es.length lc,.int .i64 0,.int .i64 0,.slice (some ⟨w3.heap.size,0,none⟩) n n,.slice (some ⟨w3.heap.size+1+1,0,none⟩) n n,.slice (some ⟨w3.heap.size+1,0,none⟩) n n] 58);obtain ⟨r1,r2⟩:=RMAt.made (hw3.trans (q5.mono hw3.size)) HLI.out q4 q1 q3 q2 (by omega) (by omega);exact ⟨_,_,rfl,rfl,rfl,r1,r2,hw3.trans (q5.mono hw3.size)⟩)
      | (obtain ⟨q1,q2,q3,q4,q5⟩:=alloc4R w3 (.cells (Array.replicate n (.int .i64 0)) 3) (.cells (Array.replicate n (.bool false)) 4) (.cells (Array.replicate n (.int .i64 0)) 3) (.cells #[.int .i64 id,.int .i64 (n:Nat),.int .i64 t,.int .i64 v,.int .i64 0,.int .i64 0,.slice la es.length lc,.int .i64 0,.int .i64 0,.slice (some ⟨w3.heap.size+1,0,none⟩) n n,.slice (some ⟨w3.heap.size,0,none⟩) n n,.slice (some ⟨w3.heap.size+1+1,0,none⟩) n n] 58);obtain ⟨r1,r2⟩:=RMAt.made (hw3.trans (q5.mono hw3.size)) HLI.out q4 q2 q1 q3 (by omega) (by omega);exact ⟨_,_,rfl,rfl,rfl,r1,r2,hw3.trans (q5.mono hw3.size)⟩)
      | (obtain ⟨q1,q2,q3,q4,q5⟩:=alloc4R w3 (.cells (Array.replicate n (.int .i64 0)) 3) (.cells (Array.replicate n (.bool false)) 4) (.cells (Array.replicate n (.int .i64 0)) 3) (.cells #[.int .i64 id,.int .i64 (n:Nat),.int .i64 t,.int .i64 v,.int .i64 0,.int .i64 0,.slice la es.length lc,.int .i64 0,.int .i64 0,.slice (some ⟨w3.heap.size+1,0,none⟩) n n,.slice (some ⟨w3.heap.size+1+1,0,none⟩) n n,.slice (some ⟨w3.heap.size,0,none⟩) n n] 58);obtain ⟨r1,r2⟩:=RMAt.made (hw3.trans (q5.mono hw3.size)) HLI.out q4 q2 q3 q1 (by omega) (by omega);exact ⟨_,_,rfl,rfl,rfl,r1,r2,hw3.trans (q5.mono hw3.size)⟩)
      | (obtain ⟨q1,q2,q3,q4,q5⟩:=alloc4R w3 (.cells (Array.replicate n (.int .i64 0)) 3) (.cells (Array.replicate n (.int .i64 0)) 3) (.cells (Array.replicate n (.bool false)) 4) (.cells #[.int .i64 id,.int .i64 (n:Nat),.int .i64 t,.int .i64 v,.int .i64 0,.int .i64 0,.slice la es.length lc,.int .i64 0,.int .i64 0,.slice (some ⟨w3.heap.size+1+1,0,none⟩) n n,.slice (some ⟨w3.heap.size,0,none⟩) n n,.slice (some ⟨w3.heap.size+1,0,none⟩) n n] 58);obtain ⟨r1,r2⟩:=RMAt.made (hw3.trans (q5.mono hw3.size)) HLI.out q4 q3 q1 q2 (by omega) (by omega);exact ⟨_,_,rfl,rfl,rfl,r1,r2,hw3.trans (q5.mono hw3.size)⟩)
      | (obtain ⟨q1,q2,q3,q4,q5⟩:=alloc4R w3 (.cells (Array.replicate n (.int .i64 0)) 3) (.cells (Array.replicate n (.int .i64 0)) 3) (.cells (Array.replicate n (.bool false)) 4) (.cells #[.int .i64 id,.int .i64 (n:Nat),.int .i64 t,.int .i64 v,.int .i64 0,.int .i64 0,.slice la es.length lc,.int .i64 0,.int .i64 0,.slice (some ⟨w3.heap.size+1+1,0,none⟩) n n,.slice (some ⟨w3.heap.size+1,0,none⟩) n n,.slice (some ⟨w3.heap.size,0,none⟩) n n] 58);obtain ⟨r1,r2⟩:=RMAt.made (hw3.trans (q5.mono hw3.size)) HLI.out q4 q3 q2 q1 (by omega) (by omega);exact ⟨_,_,rfl,rfl,rfl,r1,r2,hw3.trans (q5.mono hw3.size)⟩))
def RetRG (Q:Nat → Prop) (g':Gr) (G:Nat) (L:RL) (v:Value) (w:World) (e:Ending) (w':World):Prop:=∃ L',e=.returned v∧RGAt Q w' G L' g'∧RGStep w G L w' L'
section
variable {Q:Nat → Prop} {w:World} {G:Nat} {L:RL} {g:Gr}
theorem RGAt.cells (h:RGAt Q w G L g):w.cell? ⟨G,0,none⟩=some (.slice (some ⟨L.mo,0,none⟩) g.ms.length L.mc)∧w.cell? ⟨G,1,none⟩=some (.slice (some ⟨L.vo,0,none⟩) g.ms.length L.vc)∧w.cell? ⟨G,2,none⟩=some (.slice L.na g.net.length L.nc)∧w.frozen? ⟨G,0,none⟩=false∧w.frozen? ⟨G,1,none⟩=false∧w.frozen? ⟨G,2,none⟩=false∧G<w.heap.size:=by
  obtain ⟨a,b,c,d,e,f,i⟩:=box3 h.blk
  exact ⟨a,b,c,d,e,f,i⟩
theorem RGAt.mcell (h:RGAt Q w G L g) {i:Nat} {r:RM} (hr:L.mem[i]?=some r):w.cell? ⟨L.mo,i,none⟩=some (.pointer (some ⟨r.b,0,none⟩))∧w.frozen? ⟨L.mo,i,none⟩=false∧L.mo<w.heap.size :=
  ⟨zAX h.mrow (by unfold ptrM;rw [List.getElem?_map,hr];rfl),zAP h.mrow i,h.lt _ (rall_mo G L)⟩
theorem RGAt.vcell (h:RGAt Q w G L g) {i:Nat} {r:RM} (hr:L.mem[i]?=some r):w.cell? ⟨L.vo,i,none⟩=some (.pointer (some ⟨r.v,0,none⟩))∧w.frozen? ⟨L.vo,i,none⟩=false∧L.vo<w.heap.size :=
  ⟨zAX h.vrow (by unfold ptrR;rw [List.getElem?_map,hr];rfl),zAP h.vrow i,h.lt _ (rall_vo G L)⟩
theorem zBI (h:RGAt Q w G L g) (id:Int):Calls Tryz.prog 43 #[.pointer (some ⟨G,0,none⟩),.int .i64 id] w fun e w'=>e=.returned (.bool (decide (1≤id) && decide (id≤g.ms.length)))∧Below w.heap.size w w':=by
  obtain ⟨c0,c1,c2,f0,f1,f2,hlt⟩:=h.cells
  by_cases h1:1≤id
  · by_cases h2:id≤g.ms.length
    · rw [decide_eq_true h1,decide_eq_true h2]
      go_enter Tryz.func43,Tryz.ntmps43
      go_wp2
      go_ret
      exact ⟨rfl,zK _⟩
    · have h2':(g.ms.length:Int)<id:=by omega
      rw [decide_eq_true h1,decide_eq_false h2]
      go_enter Tryz.func43,Tryz.ntmps43
      go_wp2
      go_ret
      exact ⟨rfl,zK _⟩
  · have h1':id<1:=by omega
    rw [decide_eq_false h1]
    go_enter Tryz.func43,Tryz.ntmps43
    go_wp2
    go_ret
    exact ⟨rfl,zK _⟩
set_option maxRecDepth 100000 in
set_option maxHeartbeats 6400000 in
theorem rganew_any (h:RGAt Q w G L g) (i:Nat) {r:RM} {p:Mb × Vt} (hr:L.mem[i]?=some r) (hp:g.ms[i]?=some p) (hn:g.ms.length≤16) (hok:newOk ((i:Int)+1) g.ms.length p.2.2.2.1 p.2.2.2.2.1 0 0 p.2.2.2.2.2=true) (hQ:∀ x,w.heap.size≤x → Q x) :
    Calls Tryz.prog 80 #[.pointer (some ⟨G,0,none⟩),.int .i64 ((i:Int)+1)] w (RetRG Q ⟨g.ms.set i (fresh ((i:Int)+1) g.ms.length p.2,p.2),g.net⟩ G L (.tuple #[]) w):=by
  have hi:i<g.ms.length:=(List.getElem?_eq_some_iff.1 hp).1
  obtain ⟨hM,hV,hLo⟩:=h.mem i r p hr hp
  obtain ⟨D,cd,A,c,gV,p1,p2,p3,p4,p5,p6⟩:=hV
  have HNE:Hid (∀ W,Below w.heap.size w W → Calls Tryz.prog 42 #[.int .i64 ((i:Int)+1),.int .i64 (g.ms.length:Int),zV p.2.2.2.1 p.2.2.2.2.1,logV 0 0 A p.2.2.2.2.2.length c] W (RetRNew (fresh ((i:Int)+1) g.ms.length p.2) A W)):=fun W hW=>rnew_yes ((i:Int)+1) p.2.2.2.1 p.2.2.2.2.1 g.ms.length A c p.2.2.2.2.2 W (p5.below hW) hok
  have HL5:=Lib.hid p5
  have HP6:=Lib.hid p6
  have hlog:(fresh ((i:Int)+1) g.ms.length p.2).log=p.2.2.2.2.2:=rfl
  have HLG:=Lib.hid hlog
  clear hM p1 p2 p3 p4 p5 p6 hok hlog
  have HG:=Lib.hid h
  obtain ⟨c0,c1,c2,f0,f1,f2,hlt⟩:=h.cells
  obtain ⟨v0,v1,v2⟩:=h.vcell hr
  obtain ⟨m0,m1,m2⟩:=h.mcell hr
  generalize fresh ((i:Int)+1) g.ms.length p.2=m' at *
  obtain ⟨mb0,bs,n0,t,v,es⟩:=p
  simp only at gV HNE HL5 HP6 HLG
  obtain ⟨d0,d1,d2,d3,d4,e0,e1,e2,e3,e4,dlt⟩:=box5 gV
  have hk0:(0:Int)≤(i:Int):=by omega
  have hk1:(i:Int)<(g.ms.length:Int):=by omega
  have hwi:=zS (x:=(i:Int)) (by omega) (by omega)
  clear h
  go_enter Tryz.func80,Tryz.ntmps80
  go_upto_region 1 with (fail)
  clear c0 c1 c2 f0 f1 f2 hlt v0 v1 v2 m0 m1 m2 d0 d1 d2 d3 d4 e0 e1 e2 e3 e4 dlt
  have hal:=zC w (.cells #[.int .i64 t,.int .i64 v,.slice A es.length c] 91)
  have gS:=zG w (.cells #[.int .i64 t,.int .i64 v,.slice A es.length c] 91)
  have gG:=zA hal HG.out.blk
  generalize w.alloc (.cells #[.int .i64 t,.int .i64 v,.slice A es.length c] 91)=W1 at *
  obtain ⟨c0,c1,c2,f0,f1,f2,hlt⟩:=box3 gG
  obtain ⟨s0,s1,s2,sf0,sf1,sf2,slt⟩:=box3 gS
  have HN1:=Lib.hid (HNE.out W1.drew hal.drew)
  go_region_held3 (fun W=>W.cell? ⟨G,0,none⟩=some (.slice (some ⟨L.mo,0,none⟩) g.ms.length L.mc)∧W.cell? ⟨w.heap.size,0,none⟩=some (.int .i64 t)∧W.cell? ⟨w.heap.size,1,none⟩=some (.int .i64 v)∧W.cell? ⟨w.heap.size,2,none⟩=some (.slice A es.length c)) (first | with_reducible exact ⟨c0,s0,s1,s2⟩ | with_reducible exact ⟨j0,k0,k1,k2⟩ | go_keep) ((go_at_call 42;refine HN1.out.mono ?_;rintro e w3 ⟨b3,a3,rfl,ha3,H3,hF3,hb3⟩;have hw3:=hal.drew.trans (hb3.mono hal.size);have gG3:=zA hb3 (zM gG);have gS3:=zA hb3 (zM gS);obtain ⟨j0,j1,j2,jf0,jf1,jf2,jlt⟩:=box3 gG3;obtain ⟨k0,k1,k2,kf0,kf1,kf2,klt⟩:=box3 gS3;have HG3:=HG.out.below hw3;obtain ⟨n0,n1,n2⟩:=HG3.mcell hr))
  have HGW:=Lib.hid HG3
  clear HG3
  go_wp2
  refine bodyPost_end (results_none rfl _ _ _) rfl ?_
  have hf3:∀ x ∈ rfoot b3 a3,w.heap.size≤x:=fun x hx=>Nat.le_trans hal.size (hF3 x hx)
  obtain ⟨R1,R2⟩:=HG.out.renew hr hp hw3 H3 hf3 (by rw [ha3,HLG.out];exact fun hn b o e=>⟨(HP6.out hn b o e).1,(HP6.out hn b o e).2,HL5.out.ltO hn b o e⟩) hQ
  exact ⟨_,rfl,R1,R2⟩
end
end Go.Proofs.YtnljdkglncmfaaaGreat
