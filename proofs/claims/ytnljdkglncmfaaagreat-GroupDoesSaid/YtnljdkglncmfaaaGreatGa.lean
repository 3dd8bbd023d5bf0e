/-
  Part Ga of the proof.
-/
import Derived.Test.YtnljdkglncmfaaaGreatGp
import Derived.Test.YtnljdkglncmfaaaGreatBn
import Derived.Test.YtnljdkglncmfaaaGreatBe
import Derived.Test.YtnljdkglncmfaaaGreatBr
import Derived.Test.YtnljdkglncmfaaaGreatRaftS
import Derived.Test.YtnljdkglncmfaaaGreatBh
namespace Go.Proofs.YtnljdkglncmfaaaGreat
open Go.RowKit
set_option linter.unusedVariables false
structure ML where
  b:Nat
  a:MA
  v:Nat
  r:List Nat
structure GL where
  mem:List ML
  ma:Nat
  mc:Nat
  na:Option Addr
  nc:Nat
  sl:List (Option Addr × Nat)
def ptrV (l:List ML):List Value:=l.flatMap fun q=>[.pointer (some ⟨q.b,0,none⟩),.pointer (some ⟨q.v,0,none⟩)]
theorem ptrV_cons (q:ML) (l:List ML):ptrV (q :: l)=.pointer (some ⟨q.b,0,none⟩) :: .pointer (some ⟨q.v,0,none⟩) :: ptrV l:=rfl
theorem zCZ (l:List ML):(ptrV l).length=l.length * 2:=by
  induction l with
  | nil=>rfl
  | cons p l ih=>rw [ptrV_cons,List.length_cons,List.length_cons,ih,List.length_cons];omega
theorem ptrV_at {l:List ML} {k:Nat} {q:ML} (hk:l[k]?=some q):(ptrV l)[k * 2]?=some (.pointer (some ⟨q.b,0,none⟩))∧(ptrV l)[k * 2+1]?=some (.pointer (some ⟨q.v,0,none⟩)):=by
  induction l generalizing k with
  | nil=>simp at hk
  | cons p l ih =>
    rw [ptrV_cons]
    cases k with
    | zero =>
      simp at hk
      subst hk
      exact ⟨rfl,rfl⟩
    | succ k =>
      have:=ih (k:=k) (by simpa using hk)
      rw [show (k+1) * 2=k * 2+1+1 by omega]
      simpa using this
theorem ptrV_set {l:List ML} {k:Nat} {q:ML} (hk:l[k]?=some q) (q':ML) (hv:q'.v=q.v):ptrV (l.set k q')=(ptrV l).set (k * 2) (.pointer (some ⟨q'.b,0,none⟩)):=by
  induction l generalizing k with
  | nil=>simp at hk
  | cons p l ih =>
    cases k with
    | zero =>
      simp at hk
      subst hk
      rw [List.set_cons_zero,ptrV_cons,ptrV_cons,hv]
      rfl
    | succ k =>
      rw [List.set_cons_succ,ptrV_cons,ptrV_cons,ih (by simpa using hk),show (k+1) * 2=k * 2+1+1 by omega]
      rfl
theorem ptrV_same {l:List ML} {k:Nat} {q:ML} (hk:l[k]?=some q) (q':ML) (hb:q'.b=q.b) (hv:q'.v=q.v):ptrV (l.set k q')=ptrV l:=by
  rw [ptrV_set hk q' hv,hb]
  have h:=(ptrV_at hk).1
  obtain ⟨h1,h2⟩:=List.getElem?_eq_some_iff.1 h
  rw [← h2,List.set_getElem_self]
abbrev gC (n k:Nat) (L:GL):Array Value:=#[.slice (some ⟨L.ma,0,none⟩) n L.mc,.slice L.na k L.nc]
structure GAt (w:World) (G:Nat) (L:GL) (g:Gr):Prop where
  blk:w.heap[G]?=some (.cells (gC g.ms.length g.net.length L) 65)
  len:L.mem.length=g.ms.length
  row:w.heap[L.ma]?=some (.cells (ptrV L.mem).toArray 70)
  mem:∀ (i:Nat) (q:ML) (p:Mb × Vt),L.mem[i]?=some q → g.ms[i]?=some p → MAt w q.b q.a p.1∧VtAt w q.v (q.v+1) (fun y=>y ∈ q.r) p.2
  net:MsAt w 0 L.na L.nc g.net L.sl
  apart:∀ (i j:Nat) (q r:ML),i≠j → L.mem[i]?=some q → L.mem[j]?=some r → (∀ x ∈ foot q.b q.a,x ∉ foot r.b r.a)∧q.v≠r.v
  rows:∀ q ∈ L.mem,∀ r ∈ L.mem,∀ x ∈ q.r,x ∉ foot r.b r.a
  sep:∀ s ∈ L.sl,∀ x ∈ zU s.1,∀ r ∈ L.mem,x ∉ foot r.b r.a
  lt:∀ q ∈ L.mem,∀ x ∈ q.r,x<w.heap.size
def gall (G:Nat) (L:GL):List Nat:=G :: L.ma :: (zU L.na ++ (L.mem.flatMap fun q=>foot q.b q.a ++ q.v :: q.r) ++ L.sl.flatMap fun s=>zU s.1)
theorem gall_G (G:Nat) (L:GL):G ∈ gall G L:=by simp [gall]
theorem gall_ma (G:Nat) (L:GL):L.ma ∈ gall G L:=by simp [gall]
theorem gall_na {G:Nat} {L:GL} {x:Nat} (h:x ∈ zU L.na):x ∈ gall G L:=by simp [gall,h]
theorem zCS {G:Nat} {L:GL} {q:ML} (hq:q ∈ L.mem) {x:Nat} (h:x ∈ foot q.b q.a):x ∈ gall G L:=by
  simp only [gall,List.mem_cons,List.mem_append,List.mem_flatMap]
  exact .inr (.inr (.inl (.inr ⟨q,hq,.inl h⟩)))
theorem gall_v {G:Nat} {L:GL} {q:ML} (hq:q ∈ L.mem):q.v ∈ gall G L:=by
  simp only [gall,List.mem_cons,List.mem_append,List.mem_flatMap]
  exact .inr (.inr (.inl (.inr ⟨q,hq,.inr (.inl rfl)⟩)))
theorem gall_r {G:Nat} {L:GL} {q:ML} (hq:q ∈ L.mem) {x:Nat} (h:x ∈ q.r):x ∈ gall G L:=by
  simp only [gall,List.mem_cons,List.mem_append,List.mem_flatMap]
  exact .inr (.inr (.inl (.inr ⟨q,hq,.inr (.inr h)⟩)))
theorem gall_s {G:Nat} {L:GL} {s:Option Addr × Nat} (hs:s ∈ L.sl) {x:Nat} (h:x ∈ zU s.1):x ∈ gall G L:=by
  simp only [gall,List.mem_cons,List.mem_append,List.mem_flatMap]
  exact .inr (.inr (.inr ⟨s,hs,h⟩))
theorem gall_cases {G:Nat} {L:GL} {x:Nat} (h:x ∈ gall G L):x=G∨x=L.ma∨x ∈ zU L.na∨(∃ q ∈ L.mem,x ∈ foot q.b q.a∨x=q.v∨x ∈ q.r)∨∃ s ∈ L.sl,x ∈ zU s.1:=by
  simp only [gall,List.mem_cons,List.mem_append,List.mem_flatMap] at h
  rcases h with h | h | (h | ⟨q,hq,h⟩) | h
  · exact .inl h
  · exact .inr (.inl h)
  · exact .inr (.inr (.inl h))
  · exact .inr (.inr (.inr (.inl ⟨q,hq,h⟩)))
  · exact .inr (.inr (.inr (.inr h)))
structure GStep (w:World) (G:Nat) (L:GL) (w':World) (L':GL):Prop where
  chg:Chg (gall G L) w w'
  sub:∀ x ∈ gall G L',x ∈ gall G L∨w.heap.size≤x
theorem GStep.refl (w:World) (G:Nat) (L:GL):GStep w G L w L:=⟨Chg.refl _ _,fun x hx=>.inl hx⟩
theorem GStep.of_below {w w':World} {G:Nat} {L:GL} (h:Below w.heap.size w w'):GStep w G L w' L:=⟨Chg.of_below h,fun x hx=>.inl hx⟩
theorem GStep.trans {w w1 w2:World} {G:Nat} {L L1 L2:GL} (h:GStep w G L w1 L1) (k:GStep w1 G L1 w2 L2):GStep w G L w2 L2 :=
  ⟨h.chg.trans k.chg h.sub,fun x hx=>by
    rcases k.sub x hx with h1 | h1
    · exact h.sub x h1
    · exact .inr (Nat.le_trans h.chg.size h1)⟩
theorem GStep.below {w w1 w2:World} {G:Nat} {L L1:GL} (h:GStep w G L w1 L1) (k:Below w1.heap.size w1 w2):GStep w G L w2 L1:=h.trans (.of_below k)
theorem GStep.pre {w w1 w2:World} {G:Nat} {L L1:GL} (k:Below w.heap.size w w1) (h:GStep w1 G L w2 L1):GStep w G L w2 L1:=(GStep.of_below k).trans h
theorem MAt.kind {w:World} {b:Nat} {a:MA} {m:Mb} (h:MAt w b a m) {x:Nat} (hx:x ∈ foot b a) {cs:Array Value} {t:TypeId} (hc:w.heap[x]?=some (.cells cs t)):t=106∨t=124∨t=42:=by
  obtain ⟨hb,hl,⟨D,⟨es,clock,hv,_⟩,_⟩,hp⟩:=h
  simp only [foot,List.cons_append,List.nil_append,List.mem_cons] at hx
  rcases hx with rfl | rfl | rfl | hx
  · rw [hb] at hc;injection hc with hc;injection hc with _ hc;exact .inl hc.symm
  · rw [hv] at hc;cases hc
  · rcases hp.2 with ⟨h2,_⟩ | ⟨g,cap,cur,hv',hg,hh,r⟩
    · cases h2
    · injection hv' with h1;injection h1 with h1;injection h1 with h1;subst h1
      rw [hh] at hc;injection hc with hc;injection hc with _ hc;exact .inr (.inl hc.symm)
  · rcases hl.2 with ⟨h2,_⟩ | ⟨g,cap,cur,hv',hg,hh,r⟩
    · injection h2 with h1;rw [h1] at hx;cases hx
    · injection hv' with h1;rw [h1] at hx;simp only [zU,List.mem_singleton] at hx;subst hx
      rw [hh] at hc;injection hc with hc;injection hc with _ hc;exact .inr (.inr hc.symm)
theorem zAY {w:World} {base:Nat} {e:TypeId} {size:Nat} {A:Option Addr} {m cap:Nat} {n:Nat} {xs:List Value} (h:w.ownsRow base e size (.slice A m cap) n xs) {x:Nat} (hx:x ∈ zU A):∃ cs,w.heap[x]?=some (.cells cs e):=by
  rcases h.2 with ⟨h2,_⟩ | ⟨g,cap,cur,hv',hg,hh,r⟩
  · injection h2 with h1;rw [h1] at hx;cases hx
  · injection hv' with h1;rw [h1] at hx;simp only [zU,List.mem_singleton] at hx;subst hx
    exact ⟨_,hh⟩
theorem zBK {w:World} {x y:Nat} {cs ds:Array Value} {t u:TypeId} (hx:w.heap[x]?=some (.cells cs t)) (hy:w.heap[y]?=some (.cells ds u)) (h:t≠u):x≠y:=fun e=>by
  subst e
  rw [hx] at hy
  injection hy with hy
  injection hy with _ hy
  exact h hy
theorem VtAt.blkV {w:World} {V base:Nat} {P:Nat → Prop} {x:Vt} (h:VtAt w V base P x):∃ cs,w.heap[V]?=some (.cells cs 98):=by
  obtain ⟨D,cd,A,c,g,_⟩:=h
  exact ⟨_,g⟩
theorem VtAt.chg {S:List Nat} {w w':World} {V base:Nat} {r:List Nat} {x:Vt} (h:VtAt w V base (fun y=>y ∈ r) x) (hc:Chg S w w') (hV:V ∉ S) (hr:∀ y ∈ r,y ∉ S):VtAt w' V base (fun y=>y ∈ r) x:=by
  obtain ⟨D,cd,A,c,g,o1,o2,oP⟩:=h
  exact ⟨D,cd,A,c,hc.keep g hV,zAL o1 hc fun y hy=>hr y (oP y (List.mem_append.2 (.inl hy))),zAL o2 hc fun y hy=>hr y (oP y (List.mem_append.2 (.inr hy))),oP⟩
theorem MsAt.chg {S:List Nat} {w w':World} {base:Nat} {A:Option Addr} {c:Nat} {ms:List Ms} {sl:List (Option Addr × Nat)} (h:MsAt w base A c ms sl) (hc:Chg S w w') (hA:∀ y ∈ zU A,y ∉ S) (hs:∀ s ∈ sl,∀ y ∈ zU s.1,y ∉ S):MsAt w' base A c ms sl:=by
  refine ⟨zAL h.own hc hA,h.len,fun k hk=>zAL (h.ents k hk) hc fun y hy => ?_⟩
  have hk2:k<sl.length:=by rw [h.len];exact hk
  rw [List.getD_eq_getElem?_getD,List.getElem?_eq_getElem hk2] at hy
  exact hs _ (List.getElem_mem hk2) y hy
namespace GAt
variable {w w':World} {G:Nat} {L:GL} {g:Gr}
theorem pairOf (h:GAt w G L g) {i:Nat} {q:ML} (hq:L.mem[i]?=some q):∃ p,g.ms[i]?=some p∧MAt w q.b q.a p.1∧VtAt w q.v (q.v+1) (fun y=>y ∈ q.r) p.2:=by
  have hi:=(List.getElem?_eq_some_iff.1 hq).1
  have hi2:i<g.ms.length:=by rw [← h.len];exact hi
  exact ⟨_,List.getElem?_eq_getElem hi2,h.mem i q _ hq (List.getElem?_eq_getElem hi2)⟩
theorem notG (h:GAt w G L g) {q:ML} (hq:q ∈ L.mem):G ∉ foot q.b q.a:=fun hc=>by
  obtain ⟨i,hi⟩:=List.getElem?_of_mem hq
  obtain ⟨p,_,hm,_⟩:=h.pairOf hi
  rcases hm.kind hc h.blk with e | e | e <;> exact absurd e (by decide)
theorem notMa (h:GAt w G L g) {q:ML} (hq:q ∈ L.mem):L.ma ∉ foot q.b q.a:=fun hc=>by
  obtain ⟨i,hi⟩:=List.getElem?_of_mem hq
  obtain ⟨p,_,hm,_⟩:=h.pairOf hi
  rcases hm.kind hc h.row with e | e | e <;> exact absurd e (by decide)
theorem notV (h:GAt w G L g) {q r:ML} (hq:q ∈ L.mem) (hr:r ∈ L.mem):r.v ∉ foot q.b q.a:=fun hc=>by
  obtain ⟨i,hi⟩:=List.getElem?_of_mem hq
  obtain ⟨p,_,hm,_⟩:=h.pairOf hi
  obtain ⟨j,hj⟩:=List.getElem?_of_mem hr
  obtain ⟨p',_,_,hv⟩:=h.pairOf hj
  obtain ⟨cs,hcs⟩:=hv.blkV
  rcases hm.kind hc hcs with e | e | e <;> exact absurd e (by decide)
theorem notNa (h:GAt w G L g) {q:ML} (hq:q ∈ L.mem) {x:Nat} (hx:x ∈ zU L.na):x ∉ foot q.b q.a:=fun hc=>by
  obtain ⟨i,hi⟩:=List.getElem?_of_mem hq
  obtain ⟨p,_,hm,_⟩:=h.pairOf hi
  obtain ⟨cs,hcs⟩:=zAY h.net.own hx
  rcases hm.kind hc hcs with e | e | e <;> exact absurd e (by decide)
theorem slBlk (h:GAt w G L g) {s:Option Addr × Nat} (hs:s ∈ L.sl) {x:Nat} (hx:x ∈ zU s.1):∃ cs,w.heap[x]?=some (.cells cs 42):=by
  obtain ⟨k,hk⟩:=List.getElem?_of_mem hs
  obtain ⟨hk1,hk2⟩:=List.getElem?_eq_some_iff.1 hk
  have:=h.net.ents k (by rw [← h.net.len];exact hk1)
  rw [List.getD_eq_getElem?_getD,hk] at this
  exact zAY this hx
theorem chgOut {S:List Nat} (h:GAt w G L g) (hc:Chg S w w') (hS:∀ x ∈ gall G L,x ∉ S):GAt w' G L g:=by
  refine ⟨hc.keep h.blk (hS _ (gall_G G L)),h.len,hc.keep h.row (hS _ (gall_ma G L)),fun i q p hq hp => ?_,h.net.chg hc (fun y hy=>hS y (gall_na hy)) (fun s hs y hy=>hS y (gall_s hs hy)),h.apart,h.rows,h.sep,fun q hq x hx=>Nat.lt_of_lt_of_le (h.lt q hq x hx) hc.size⟩
  have hqm:=List.mem_of_getElem? hq
  obtain ⟨h1,h2⟩:=h.mem i q p hq hp
  exact ⟨h1.chg hc fun x hx=>hS x (zCS hqm hx),h2.chg hc (hS _ (gall_v hqm)) fun y hy=>hS y (gall_r hqm hy)⟩
theorem below (h:GAt w G L g) (hb:Below w.heap.size w w'):GAt w' G L g:=h.chgOut (S:=[]) (Chg.of_below hb) fun x _ hx=>by cases hx
theorem drew (h:GAt w G L g):GAt w.drew G L g:=h.below (Below.refl _ _).drew
theorem many (h:GAt w G L g) (n:Nat):GAt (w.drewN n) G L g:=h.below (Below.many (zK w) n)
theorem gltAll (h:GAt w G L g):∀ x ∈ gall G L,x<w.heap.size:=by
  intro x hx
  rcases gall_cases hx with rfl | rfl | hx | ⟨q,hq,hx⟩ | ⟨s,hs,hx⟩
  · exact zB h.blk
  · exact zB h.row
  · obtain ⟨cs,hcs⟩:=zAY h.net.own hx
    exact zB hcs
  · obtain ⟨i,hi⟩:=List.getElem?_of_mem hq
    obtain ⟨p,_,hm,hv⟩:=h.pairOf hi
    rcases hx with hx | rfl | hx
    · exact hm.lt x hx
    · obtain ⟨cs,hcs⟩:=hv.blkV
      exact zB hcs
    · exact h.lt q hq x hx
  · obtain ⟨cs,hcs⟩:=h.slBlk hs hx
    exact zB hcs
end GAt
theorem getElem?_set_cases {α:Type} {l:List α} {i j:Nat} {x y:α} (h:(l.set i x)[j]?=some y):(i=j∧y=x)∨(i≠j∧l[j]?=some y):=by
  rw [List.getElem?_set] at h
  split at h
  · rename_i e
    split at h
    · injection h with h;exact .inl ⟨e,h.symm⟩
    · cases h
  · rename_i e
    exact .inr ⟨e,h⟩
theorem zAI {α:Type} {l:List α} {i:Nat} {x y:α} (h:y ∈ l.set i x):y=x∨y ∈ l:=(List.mem_or_eq_of_mem_set h).symm
theorem VtAt.chgRow {w w':World} {V base M:Nat} {P:Nat → Prop} {x:Vt} (h:VtAt w V base P x) {cs:Array Value} {t:TypeId} (hM:w.heap[M]?=some (.cells cs t)) (h1:t≠98) (h2:t≠5) (h3:t≠42) (hc:Chg [M] w w'):VtAt w' V base P x:=by
  obtain ⟨D,cd,A,c,g,o1,o2,oP⟩:=h
  refine ⟨D,cd,A,c,hc.keep g (by rw [List.mem_singleton];exact zBK g hM (Ne.symm h1)),zAL o1 hc fun y hy => ?_,zAL o2 hc fun y hy => ?_,oP⟩
  · rw [List.mem_singleton]
    obtain ⟨ds,hds⟩:=zAY o1 hy
    exact zBK hds hM (Ne.symm h2)
  · rw [List.mem_singleton]
    obtain ⟨ds,hds⟩:=zAY o2 hy
    exact zBK hds hM (Ne.symm h3)
abbrev GL.put (L:GL) (i:Nat) (q:ML):GL:={ L with mem:=L.mem.set i q }
namespace GAt
variable {w w':World} {G:Nat} {L:GL} {g:Gr}
theorem step (h : GAt w G L g) {i : Nat} {q : ML} {p : Mb × Vt} (hq : L.mem[i]? = some q) (hp : g.ms[i]? = some p) {a' : MA} {m' : Mb} (hm : MAt w' q.b a' m') (hs : Step w q.b q.a w' a') :
    GAt w' G (L.put i { q with a:=a' }) ⟨g.ms.set i (m',p.2),g.net⟩∧GStep w G L w' (L.put i { q with a:=a' }):=by
  have hqm:=List.mem_of_getElem? hq
  have hsub:∀ r ∈ L.mem,∀ x ∈ r.r,x<w.heap.size:=h.lt
  have hnew:∀ x,x ∈ foot q.b a' → x ∈ foot q.b q.a∨w.heap.size≤x:=hs.sub
  refine ⟨⟨?_,?_,?_,?_,?_,?_,?_,?_,?_⟩,⟨hs.chg.mono fun x hx=>.inl (zCS hqm hx),?_⟩⟩
  · have:=hs.chg.keep h.blk (h.notG hqm)
    simp only [List.length_set]
    exact this
  · simp only [List.length_set];exact h.len
  · have:=hs.chg.keep h.row (h.notMa hqm)
    show w'.heap[L.ma]?=some (.cells (ptrV (L.mem.set i { q with a:=a' })).toArray _)
    rw [ptrV_same hq { q with a:=a' } rfl rfl]
    exact this
  · intro j r p' hr hp'
    rcases getElem?_set_cases hr with ⟨rfl,rfl⟩ | ⟨hne,hr⟩
    · rcases getElem?_set_cases hp' with ⟨_,rfl⟩ | ⟨hne,_⟩
      · exact ⟨hm,(h.mem _ q p hq hp).2.chg hs.chg (h.notV hqm hqm) fun y hy=>h.rows q hqm q hqm y hy⟩
      · exact (hne rfl).elim
    · rcases getElem?_set_cases hp' with ⟨e,_⟩ | ⟨_,hp'⟩
      · exact (hne e).elim
      · obtain ⟨h1,h2⟩:=h.mem j r p' hr hp'
        have hrm:=List.mem_of_getElem? hr
        exact ⟨h1.chg hs.chg fun x hx hc=>(h.apart i j q r hne hq hr).1 x hc hx,h2.chg hs.chg (h.notV hqm hrm) fun y hy=>h.rows r hrm q hqm y hy⟩
  · exact h.net.chg hs.chg (fun y hy=>h.notNa hqm hy) fun s hs' y hy=>h.sep s hs' y hy q hqm
  · intro j k r s hne hr hs'
    rcases getElem?_set_cases hr with ⟨e1,rfl⟩ | ⟨n1,hr⟩ <;> rcases getElem?_set_cases hs' with ⟨e2,rfl⟩ | ⟨n2,hs'⟩
    · exact (hne (e1.symm.trans e2)).elim
    · obtain ⟨q1,q2⟩:=h.apart i k q s n2 hq hs'
      refine ⟨fun x hx => ?_,q2⟩
      rcases hnew x hx with h1 | h1
      · exact q1 x h1
      · intro hc
        obtain ⟨p',_,hm',_⟩:=h.pairOf hs'
        have:=hm'.lt x hc
        omega
    · obtain ⟨q1,q2⟩:=h.apart j i r q (fun e=>n1 e.symm) hr hq
      refine ⟨fun x hx hc => ?_,q2⟩
      rcases hnew x hc with h1 | h1
      · exact q1 x hx h1
      · obtain ⟨p',_,hm',_⟩:=h.pairOf hr
        have:=hm'.lt x hx
        omega
    · exact h.apart j k r s hne hr hs'
  · intro r hr s hs' x hx
    have hr':∃ r' ∈ L.mem,x ∈ r'.r:=by
      rcases zAI hr with rfl | hr
      · exact ⟨q,hqm,hx⟩
      · exact ⟨r,hr,hx⟩
    obtain ⟨r',hr',hx⟩:=hr'
    rcases zAI hs' with rfl | hs'
    · intro hc
      rcases hnew x hc with h1 | h1
      · exact h.rows r' hr' q hqm x hx h1
      · have:=hsub r' hr' x hx;omega
    · exact h.rows r' hr' s hs' x hx
  · intro s hs' x hx r hr
    rcases zAI hr with rfl | hr
    · intro hc
      rcases hnew x hc with h1 | h1
      · exact h.sep s hs' x hx q hqm h1
      · obtain ⟨cs,hcs⟩:=h.slBlk hs' hx
        have:=zB hcs
        omega
    · exact h.sep s hs' x hx r hr
  · intro r hr x hx
    rcases zAI hr with rfl | hr
    · exact Nat.lt_of_lt_of_le (hsub q hqm x hx) hs.chg.size
    · exact Nat.lt_of_lt_of_le (hsub r hr x hx) hs.chg.size
  · intro x hx
    rcases gall_cases hx with rfl | rfl | hx | ⟨r,hr,hx⟩ | ⟨s,hs',hx⟩
    · exact .inl (gall_G _ _)
    · exact .inl (gall_ma _ _)
    · exact .inl (gall_na hx)
    · rcases zAI hr with rfl | hr
      · rcases hx with hx | rfl | hx
        · rcases hnew x hx with h1 | h1
          · exact .inl (zCS hqm h1)
          · exact .inr h1
        · exact .inl (show q.v ∈ gall G L from gall_v hqm)
        · exact .inl (gall_r hqm hx)
      · rcases hx with hx | rfl | hx
        · exact .inl (zCS hr hx)
        · exact .inl (gall_v hr)
        · exact .inl (gall_r hr hx)
    · exact .inl (show x ∈ gall G L from gall_s (L:=L) hs' hx)
theorem disk (h : GAt w G L g) {i : Nat} {q : ML} {p : Mb × Vt} (hq : L.mem[i]? = some q) (hp : g.ms[i]? = some p) {x' : Vt} (hO : Only q.v w w') (hv : VtAt w' q.v (q.v + 1) (fun y => y ∈ q.r ∨ w.heap.size ≤ y) x') :
    ∃ L',GAt w' G L' ⟨g.ms.set i (p.1,x'),g.net⟩∧GStep w G L w' L'∧∃ r,L'=L.put i { q with r:=r }:=by
  have hqm:=List.mem_of_getElem? hq
  have hC:Chg [q.v] w w':=⟨hO.os,hO.tape,hO.output,hO.size,fun k hk hne=>hO.block k hk (by simpa using hne)⟩
  obtain ⟨D,cd,A,c,gV,o1,o2,oP⟩:=hv
  obtain ⟨pq,_,hmq,hvq⟩:=h.pairOf hq
  obtain ⟨csV,hcsV⟩:=hvq.blkV
  have hnew:∀ y ∈ zU D ++ zU A,y ∈ q.r∨w.heap.size≤y:=oP
  have hfoot:∀ r ∈ L.mem,∀ x ∈ foot r.b r.a,x ∉ [q.v]:=fun r hr x hx hc=>by
    rw [List.mem_singleton] at hc
    subst hc
    exact h.notV hr hqm hx
  refine ⟨L.put i { q with r:=zU D ++ zU A },⟨?_,?_,?_,?_,?_,?_,?_,?_,?_⟩,⟨hC.mono fun x hx=>by rw [List.mem_singleton] at hx;subst hx;exact .inl (show q.v ∈ gall G L from gall_v hqm),?_⟩,_,rfl⟩
  · have:=hC.keep h.blk (by rw [List.mem_singleton];exact zBK h.blk hcsV (by decide))
    simp only [List.length_set]
    exact this
  · simp only [List.length_set];exact h.len
  · have:=hC.keep h.row (by rw [List.mem_singleton];exact zBK h.row hcsV (by decide))
    show w'.heap[L.ma]?=some (.cells (ptrV (L.mem.set i { q with r:=zU D ++ zU A })).toArray _)
    rw [ptrV_same hq { q with r:=zU D ++ zU A } rfl rfl]
    exact this
  · intro j r p' hr hp'
    rcases getElem?_set_cases hr with ⟨rfl,rfl⟩ | ⟨hne,hr⟩
    · rcases getElem?_set_cases hp' with ⟨_,rfl⟩ | ⟨hne,_⟩
      · exact ⟨(h.mem _ q p hq hp).1.chg hC (hfoot q hqm),⟨D,cd,A,c,gV,o1,o2,fun y hy=>hy⟩⟩
      · exact (hne rfl).elim
    · rcases getElem?_set_cases hp' with ⟨e,_⟩ | ⟨_,hp'⟩
      · exact (hne e).elim
      · obtain ⟨h1,h2⟩:=h.mem j r p' hr hp'
        have hrm:=List.mem_of_getElem? hr
        refine ⟨h1.chg hC (hfoot r hrm),?_⟩
        obtain ⟨D2,cd2,A2,c2,gV2,u1,u2,uP⟩:=h2
        refine ⟨D2,cd2,A2,c2,hC.keep gV2 (by rw [List.mem_singleton];exact fun e=>(h.apart i j q r hne hq hr).2 e.symm),zAL u1 hC fun y hy => ?_,zAL u2 hC fun y hy => ?_,uP⟩
        · rw [List.mem_singleton]
          obtain ⟨cs,hcs⟩:=zAY u1 hy
          exact zBK hcs hcsV (by decide)
        · rw [List.mem_singleton]
          obtain ⟨cs,hcs⟩:=zAY u2 hy
          exact zBK hcs hcsV (by decide)
  · refine h.net.chg hC (fun y hy => ?_) fun s hs' y hy => ?_
    · rw [List.mem_singleton]
      obtain ⟨cs,hcs⟩:=zAY h.net.own hy
      exact zBK hcs hcsV (by decide)
    · rw [List.mem_singleton]
      obtain ⟨cs,hcs⟩:=h.slBlk hs' hy
      exact zBK hcs hcsV (by decide)
  · intro j k r s hne hr hs'
    have f:∀ {j:Nat} {r:ML},(L.mem.set i { q with r:=zU D ++ zU A })[j]?=some r → ∃ r',L.mem[j]?=some r'∧r.b=r'.b∧r.a=r'.a∧r.v=r'.v:=fun hr=>by
      rcases getElem?_set_cases hr with ⟨rfl,rfl⟩ | ⟨_,hr⟩
      · exact ⟨q,hq,rfl,rfl,rfl⟩
      · exact ⟨_,hr,rfl,rfl,rfl⟩
    obtain ⟨r',h1,e1,e2,e3⟩:=f hr
    obtain ⟨s',h2,f1,f2,f3⟩:=f hs'
    rw [e1,e2,e3,f1,f2,f3]
    exact h.apart j k r' s' hne h1 h2
  · intro r hr s hs' x hx
    have hs2:∃ s' ∈ L.mem,foot s.b s.a=foot s'.b s'.a:=by
      rcases zAI hs' with rfl | hs'
      · exact ⟨q,hqm,rfl⟩
      · exact ⟨s,hs',rfl⟩
    obtain ⟨s',hs2,e⟩:=hs2
    rw [e]
    rcases zAI hr with rfl | hr
    · rcases hnew x hx with h1 | h1
      · exact h.rows q hqm s' hs2 x h1
      · intro hc
        obtain ⟨k,hk⟩:=List.getElem?_of_mem hs2
        obtain ⟨p',_,hm',_⟩:=h.pairOf hk
        have:=hm'.lt x hc
        omega
    · exact h.rows r hr s' hs2 x hx
  · intro s hs' x hx r hr
    rcases zAI hr with rfl | hr
    · exact h.sep s hs' x hx q hqm
    · exact h.sep s hs' x hx r hr
  · intro r hr x hx
    rcases zAI hr with rfl | hr
    · rcases List.mem_append.1 hx with h1 | h1
      · exact (zAU o1 x h1).2
      · exact (zAU o2 x h1).2
    · exact Nat.lt_of_lt_of_le (h.lt r hr x hx) hC.size
  · intro x hx
    rcases gall_cases hx with rfl | rfl | hx | ⟨r,hr,hx⟩ | ⟨s,hs',hx⟩
    · exact .inl (gall_G _ _)
    · exact .inl (gall_ma _ _)
    · exact .inl (gall_na hx)
    · rcases zAI hr with rfl | hr
      · rcases hx with hx | rfl | hx
        · exact .inl (zCS hqm hx)
        · exact .inl (show q.v ∈ gall G L from gall_v hqm)
        · rcases hnew x hx with h1 | h1
          · exact .inl (gall_r hqm h1)
          · exact .inr h1
      · rcases hx with hx | rfl | hx
        · exact .inl (zCS hr hx)
        · exact .inl (gall_v hr)
        · exact .inl (gall_r hr hx)
    · exact .inl (show x ∈ gall G L from gall_s (L:=L) hs' hx)
theorem renew (h : GAt w G L g) {i : Nat} {q : ML} {p : Mb × Vt} (hq : L.mem[i]? = some q) (hp : g.ms[i]? = some p) {w1 : World} {b' : Nat} {a' : MA} {m' : Mb} (hb : Below w.heap.size w w1) (hm : MAt w1 b' a' m') (hn : ∀ x ∈ foot b' a', w.heap.size ≤ x) :
    GAt (w1.setCell ⟨L.ma,i * 2,none⟩ (.pointer (some ⟨b',0,none⟩))) G (L.put i { q with b:=b',a:=a' }) ⟨g.ms.set i (m',p.2),g.net⟩∧GStep w G L (w1.setCell ⟨L.ma,i * 2,none⟩ (.pointer (some ⟨b',0,none⟩))) (L.put i { q with b:=b',a:=a' }):=by
  have hqm:=List.mem_of_getElem? hq
  have h1:=h.below hb
  have hC:Chg [L.ma] w1 (w1.setCell ⟨L.ma,i * 2,none⟩ (.pointer (some ⟨b',0,none⟩))):=(Chg.refl _ _).setCell (.inl (by simp)) _ _
  have hC0:Chg [L.ma] w (w1.setCell ⟨L.ma,i * 2,none⟩ (.pointer (some ⟨b',0,none⟩))):=Chg.pre hb hC
  have hmaF:L.ma ∉ foot b' a':=fun hc=>by have:=hn _ hc;have:=zB h.row;omega
  refine ⟨⟨?_,?_,?_,?_,?_,?_,?_,?_,?_⟩,⟨hC0.mono fun x hx=>by rw [List.mem_singleton] at hx;subst hx;exact .inl (gall_ma _ _),?_⟩⟩
  · have:=hC.keep h1.blk (by rw [List.mem_singleton];exact zBK h1.blk h1.row (by decide))
    simp only [List.length_set]
    exact this
  · simp only [List.length_set];exact h.len
  · have:=zQ (i:=i * 2) h1.row (.pointer (some ⟨b',0,none⟩))
    show (w1.setCell ⟨L.ma,i * 2,none⟩ (.pointer (some ⟨b',0,none⟩))).heap[L.ma]?=some (.cells (ptrV (L.mem.set i { q with b:=b',a:=a' })).toArray _)
    rw [ptrV_set hq { q with b:=b',a:=a' } rfl,this]
    congr 2
    exact Array.ext' (by simp)
  · intro j r p' hr hp'
    rcases getElem?_set_cases hr with ⟨rfl,rfl⟩ | ⟨hne,hr⟩
    · rcases getElem?_set_cases hp' with ⟨_,rfl⟩ | ⟨hne,_⟩
      · refine ⟨hm.chg hC fun x hx hc=>by rw [List.mem_singleton] at hc;subst hc;exact hmaF hx,?_⟩
        exact (h1.mem _ q p hq hp).2.chgRow h1.row (by decide) (by decide) (by decide) hC
      · exact (hne rfl).elim
    · rcases getElem?_set_cases hp' with ⟨e,_⟩ | ⟨_,hp'⟩
      · exact (hne e).elim
      · obtain ⟨h2,h3⟩:=h1.mem j r p' hr hp'
        have hrm:=List.mem_of_getElem? hr
        exact ⟨h2.chg hC fun x hx hc=>by rw [List.mem_singleton] at hc;subst hc;exact h1.notMa hrm hx,h3.chgRow h1.row (by decide) (by decide) (by decide) hC⟩
  · refine h1.net.chg hC (fun y hy => ?_) fun s hs' y hy => ?_
    · rw [List.mem_singleton]
      obtain ⟨cs,hcs⟩:=zAY h1.net.own hy
      exact zBK hcs h1.row (by decide)
    · rw [List.mem_singleton]
      obtain ⟨cs,hcs⟩:=h1.slBlk hs' hy
      exact zBK hcs h1.row (by decide)
  · intro j k r s hne hr hs'
    rcases getElem?_set_cases hr with ⟨e1,rfl⟩ | ⟨n1,hr⟩ <;> rcases getElem?_set_cases hs' with ⟨e2,rfl⟩ | ⟨n2,hs'⟩
    · exact (hne (e1.symm.trans e2)).elim
    · obtain ⟨q1,q2⟩:=h.apart i k q s n2 hq hs'
      refine ⟨fun x hx hc => ?_,q2⟩
      have:=hn x hx
      obtain ⟨p',_,hm',_⟩:=h.pairOf hs'
      have:=hm'.lt x hc
      omega
    · obtain ⟨q1,q2⟩:=h.apart j i r q (fun e=>n1 e.symm) hr hq
      refine ⟨fun x hx hc => ?_,q2⟩
      have:=hn x hc
      obtain ⟨p',_,hm',_⟩:=h.pairOf hr
      have:=hm'.lt x hx
      omega
    · exact h.apart j k r s hne hr hs'
  · intro r hr s hs' x hx
    have hr':∃ r' ∈ L.mem,x ∈ r'.r:=by
      rcases zAI hr with rfl | hr
      · exact ⟨q,hqm,hx⟩
      · exact ⟨r,hr,hx⟩
    obtain ⟨r',hr',hx⟩:=hr'
    rcases zAI hs' with rfl | hs'
    · intro hc
      have:=hn x hc
      have:=h.lt r' hr' x hx
      omega
    · exact h.rows r' hr' s hs' x hx
  · intro s hs' x hx r hr
    rcases zAI hr with rfl | hr
    · intro hc
      have:=hn x hc
      obtain ⟨cs,hcs⟩:=h.slBlk hs' hx
      have:=zB hcs
      omega
    · exact h.sep s hs' x hx r hr
  · intro r hr x hx
    rcases zAI hr with rfl | hr
    · exact Nat.lt_of_lt_of_le (h.lt q hqm x hx) hC0.size
    · exact Nat.lt_of_lt_of_le (h.lt r hr x hx) hC0.size
  · intro x hx
    rcases gall_cases hx with rfl | rfl | hx | ⟨r,hr,hx⟩ | ⟨s,hs',hx⟩
    · exact .inl (gall_G _ _)
    · exact .inl (gall_ma _ _)
    · exact .inl (gall_na hx)
    · rcases zAI hr with rfl | hr
      · rcases hx with hx | rfl | hx
        · exact .inr (hn x hx)
        · exact .inl (show q.v ∈ gall G L from gall_v hqm)
        · exact .inl (gall_r hqm hx)
      · rcases hx with hx | rfl | hx
        · exact .inl (zCS hr hx)
        · exact .inl (gall_v hr)
        · exact .inl (gall_r hr hx)
    · exact .inl (show x ∈ gall G L from gall_s (L:=L) hs' hx)
theorem netTo (h:GAt w G L g) {w1:World} {na:Option Addr} {nc:Nat} {l:List Ms} {sl:List (Option Addr × Nat)} (hc:Chg (zU L.na) w w1) (hms:MsAt w1 0 na nc l sl) (hsep:∀ s ∈ sl,∀ x ∈ zU s.1,∀ r ∈ L.mem,x ∉ foot r.b r.a)
    {B0:Nat} (hna:∀ x ∈ zU na,x ∈ zU L.na∨B0≤x) (hsl:∀ s ∈ sl,∀ x ∈ zU s.1,x ∈ gall G L∨B0≤x) :
    GAt (w1.setCell ⟨G,1,none⟩ (.slice na l.length nc)) G { L with na:=na,nc:=nc,sl:=sl } ⟨g.ms,l⟩∧Chg (gall G L) w (w1.setCell ⟨G,1,none⟩ (.slice na l.length nc))∧∀ x ∈ gall G { L with na:=na,nc:=nc,sl:=sl },x ∈ gall G L∨B0≤x:=by
  have hnaK:∀ {x:Nat},x ∈ zU L.na → ∃ cs,w.heap[x]?=some (.cells cs 78):=fun hx=>zAY h.net.own hx
  have hG:G ∉ zU L.na:=fun hx=>by
    obtain ⟨cs,hcs⟩:=hnaK hx
    exact zBK hcs h.blk (by decide) rfl
  have hblk:=hc.keep h.blk hG
  have hC:Chg [G] w1 (w1.setCell ⟨G,1,none⟩ (.slice na l.length nc)):=(Chg.refl _ _).setCell (.inl (by simp)) _ _
  have hC0:Chg (G :: zU L.na) w (w1.setCell ⟨G,1,none⟩ (.slice na l.length nc)):=(hc.mono fun x hx=>.inl (List.mem_cons_of_mem _ hx)).setCell (.inl (by simp)) _ _
  have hfoot:∀ r ∈ L.mem,∀ x ∈ foot r.b r.a,x ∉ G :: zU L.na:=fun r hr x hx hc=>by
    rcases List.mem_cons.1 hc with rfl | hc
    · exact h.notG hr hx
    · exact h.notNa hr hc hx
  have hne:∀ {x:Nat} {cs:Array Value} {t:TypeId},w.heap[x]?=some (.cells cs t) → t≠65 → t≠78 → x ∉ G :: zU L.na:=fun hx h1 h2 hc=>by
    rcases List.mem_cons.1 hc with rfl | hc
    · exact zBK hx h.blk h1 rfl
    · obtain ⟨cs,hcs⟩:=hnaK hc
      exact zBK hx hcs h2 rfl
  refine ⟨⟨?_,h.len,hC0.keep h.row (hne h.row (by decide) (by decide)),?_,?_,h.apart,h.rows,hsep,fun r hr x hx=>Nat.lt_of_lt_of_le (h.lt r hr x hx) hC0.size⟩,hC0.mono fun x hx => ?_,?_⟩
  · have:=zQ (i:=1) hblk (.slice na l.length nc)
    exact this
  · intro j r p' hr hp'
    obtain ⟨h2,h3⟩:=h.mem j r p' hr hp'
    have hrm:=List.mem_of_getElem? hr
    refine ⟨h2.chg hC0 (hfoot r hrm),?_⟩
    obtain ⟨D,cd,A,c,gV,o1,o2,oP⟩:=h3
    refine ⟨D,cd,A,c,hC0.keep gV (hne gV (by decide) (by decide)),zAL o1 hC0 fun y hy => ?_,zAL o2 hC0 fun y hy => ?_,oP⟩
    · obtain ⟨cs,hcs⟩:=zAY o1 hy
      exact hne hcs (by decide) (by decide)
    · obtain ⟨cs,hcs⟩:=zAY o2 hy
      exact hne hcs (by decide) (by decide)
  · refine hms.chg hC (fun y hy => ?_) fun s hs' y hy => ?_
    · rw [List.mem_singleton]
      obtain ⟨cs,hcs⟩:=zAY hms.own hy
      exact zBK hcs hblk (by decide)
    · rw [List.mem_singleton]
      obtain ⟨k,hk⟩:=List.getElem?_of_mem hs'
      obtain ⟨hk1,hk2⟩:=List.getElem?_eq_some_iff.1 hk
      have:=hms.ents k (by rw [← hms.len];exact hk1)
      rw [List.getD_eq_getElem?_getD,hk] at this
      obtain ⟨cs,hcs⟩:=zAY this hy
      exact zBK hcs hblk (by decide)
  · rcases List.mem_cons.1 hx with rfl | hx
    · exact .inl (gall_G _ _)
    · exact .inl (gall_na hx)
  · intro x hx
    rcases gall_cases hx with rfl | rfl | hx | ⟨r,hr,hx⟩ | ⟨s,hs',hx⟩
    · exact .inl (gall_G _ _)
    · exact .inl (gall_ma _ _)
    · rcases hna x hx with h1 | h1
      · exact .inl (gall_na h1)
      · exact .inr h1
    · rcases hx with hx | rfl | hx
      · exact .inl (show x ∈ gall G L from zCS (L:=L) hr hx)
      · exact .inl (show r.v ∈ gall G L from gall_v (L:=L) hr)
      · exact .inl (show x ∈ gall G L from gall_r (L:=L) hr hx)
    · exact hsl s hs' x hx
end GAt
def RetG (g':Gr) (G:Nat) (L:GL) (v:Value) (w:World) (e:Ending) (w':World):Prop:=∃ L',e=.returned v∧GAt w' G L' g'∧GStep w G L w' L'
section
variable {w:World} {G:Nat} {L:GL} {g:Gr}
theorem GAt.cells (h:GAt w G L g):w.cell? ⟨G,0,none⟩=some (.slice (some ⟨L.ma,0,none⟩) g.ms.length L.mc)∧w.cell? ⟨G,1,none⟩=some (.slice L.na g.net.length L.nc)∧w.frozen? ⟨G,0,none⟩=false∧w.frozen? ⟨G,1,none⟩=false∧G<w.heap.size:=by
  obtain ⟨a,b,c,d,e⟩:=box2 h.blk
  exact ⟨a,b,c,d,e⟩
theorem GAt.ptrs (h:GAt w G L g) {i:Nat} {q:ML} (hq:L.mem[i]?=some q):w.cell? ⟨L.ma,i * 2,none⟩=some (.pointer (some ⟨q.b,0,none⟩))∧w.cell? ⟨L.ma,i * 2+1,none⟩=some (.pointer (some ⟨q.v,0,none⟩))∧w.frozen? ⟨L.ma,i * 2,none⟩=false∧w.frozen? ⟨L.ma,i * 2+1,none⟩=false∧L.ma<w.heap.size:=by
  refine ⟨?_,?_,zN h.row _,zN h.row _,zB h.row⟩
  · rw [zE h.row]
    have:=(ptrV_at hq).1
    simpa using this
  · rw [zE h.row]
    have:=(ptrV_at hq).2
    simpa using this
theorem of_any (h:GAt w G L g) (i:Nat) (hi:i<g.ms.length) (hn:g.ms.length≤16):Calls Tryz.prog 29 #[.pointer (some ⟨G,0,none⟩),.int .i64 ((i:Int)+1)] w fun e w'=>e=.returned (.pointer (some ⟨L.ma,i * 2,none⟩))∧w'=w:=by
  obtain ⟨c0,c1,f0,f1,hlt⟩:=h.cells
  have hwr:IntKind.i64.wrap (i:Int)=(i:Int):=zS (by omega) (by omega)
  have hi0:(0:Int)≤(i:Int):=by omega
  have hi1:(i:Int)<(g.ms.length:Int):=by omega
  clear h
  go_enter Tryz.func29,Tryz.ntmps29
  go_wp2
  go_ret
  exact ⟨rfl,rfl⟩
end
set_option maxRecDepth 100000 in
set_option maxHeartbeats 6400000 in
theorem gsave_any {w:World} {G:Nat} {L:GL} {g:Gr} (h:GAt w G L g) (i:Nat) {q:ML} {p:Mb × Vt} (hq:L.mem[i]?=some q) (hp:g.ms[i]?=some p) (hn:g.ms.length≤16) (hm:MbOk p.1) (hwf:∀ e ∈ p.1.log,EnWf e) (hx:VtOk p.2) (hl:p.2.1.length≤65536) :
    Calls Tryz.prog 35 #[.pointer (some ⟨G,0,none⟩),.int .i64 ((i:Int)+1)] w (RetG ⟨g.ms.set i (p.1,saved p.1 p.2),g.net⟩ G L (.int .i64 (saves p.1 p.2)) w):=by
  have hi:i<g.ms.length:=(List.getElem?_eq_some_iff.1 hp).1
  have HOF:=Lib.hid (of_any h i hi hn)
  obtain ⟨c0,c1,f0,f1,hlt⟩:=h.ptrs hq
  obtain ⟨hM,hV⟩:=h.mem i q p hq hp
  have HBA:Hid (∀ W,MAt W q.b q.a p.1 → Calls Tryz.prog 39 #[.pointer (some ⟨q.b,0,none⟩)] W fun e w'=>e=.returned (zV p.1.term p.1.vote)∧Below W.heap.size W w'):=fun W h=>ballot_any h
  have HLO:Hid (∀ W,MAt W q.b q.a p.1 → Calls Tryz.prog 40 #[.pointer (some ⟨q.b,0,none⟩)] W (RetLogM p.1.log W)):=fun W h=>mlog_any h hm.len64
  obtain ⟨csV,hcsV⟩:=hV.blkV
  have hVlt:=zB hcsV
  have HSV:Hid (∀ W A c,Below w.heap.size w W → LogIn W A c p.1.log → Calls Tryz.prog 70 #[.pointer (some ⟨q.v,0,none⟩),zV p.1.term p.1.vote,logV 0 0 A p.1.log.length c] W fun e w'=>e=.returned (.int .i64 (saves p.1 p.2))∧VtAt w' q.v (q.v+1) (fun y=>y ∈ q.r∨W.heap.size≤y) (saved p.1 p.2)∧Only q.v W w'):=fun W A c hb hle=>by
    obtain ⟨D,cd,A',c',g1,o1,o2,oP⟩:=hV
    have hV':VtAt W q.v (q.v+1) (fun y=>y ∈ q.r∨W.heap.size≤y) p.2:=⟨D,cd,A',c',zA hb g1,zD o1 hb,zD o2 hb,fun y hy=>.inl (oP y hy)⟩
    exact save_any q.v (q.v+1) p.2 p.1.term p.1.vote 0 0 A c p.1.log W (fun y hy=>.inr hy) hV' (by omega) (by have:=hb.size;omega) hle hwf hx hl
  have hMAT:=Lib.hid hM
  have hrow:=h.row
  have hneV:L.ma≠q.v:=zBK hrow hcsV (by decide)
  have HP0:Hid ((ptrV L.mem).toArray[i * 2]?=some (.pointer (some ⟨q.b,0,none⟩))):=by have:=(ptrV_at hq).1;simpa [Hid] using this
  have HP1:Hid ((ptrV L.mem).toArray[i * 2+1]?=some (.pointer (some ⟨q.v,0,none⟩))):=by have:=(ptrV_at hq).2;simpa [Hid] using this
  have HG:=Lib.hid h
  have h64:=hm.len64
  clear h hV hM hm hwf hx hl
  go_enter Tryz.func35,Tryz.ntmps35
  go_upto_region 2 with (go_at_call 29;refine HOF.out.mono ?_;rintro e wx ⟨rfl,hwx⟩;subst hwx)
  have HB1:=Lib.hid (HBA.out _ hMAT.out.drew)
  go_region_held3 (fun W=>W.cell? ⟨L.ma,i * 2,none⟩=some (.pointer (some ⟨q.b,0,none⟩))∧W.cell? ⟨L.ma,i * 2+1,none⟩=some (.pointer (some ⟨q.v,0,none⟩))) (first | with_reducible exact ⟨c0,c1⟩ | with_reducible exact ⟨k0,k1⟩ | with_reducible exact ⟨j0,j1⟩ | with_reducible exact ⟨l0,l1⟩ | go_keep) (first
    | (go_at_call 39;refine HB1.out.mono ?_;rintro e w1 ⟨rfl,hb1⟩;have hM1:=hMAT.out.drew.below hb1;have R1:=zA hb1 (zM hrow);have k0:=(zE R1 (i * 2)).trans HP0.out;have k1:=(zE R1 (i * 2+1)).trans HP1.out;have klt:=zB R1;have HL1:=Lib.hid (HLO.out _ hM1))
    | (go_at_call 40;refine HL1.out.mono ?_;rintro e w2 ⟨A2,c2,rfl,own2,hb2⟩;have hb12:=hb1.trans (hb2.mono hb1.size);have R2:=zA hb2 R1;have j0:=(zE R2 (i * 2)).trans HP0.out;have j1:=(zE R2 (i * 2+1)).trans HP1.out)
    | (go_at_call 70;refine (HSV.out _ _ _ ((Below.refl _ _).drew.trans hb12) (LogIn.of_own own2)).mono ?_;rintro e w3 ⟨rfl,hv3,hO3⟩;have R3:=hO3.keep R2 hneV;have l0:=(zE R3 (i * 2)).trans HP0.out;have l1:=(zE R3 (i * 2+1)).trans HP1.out))
  all_goals go_wp2
  all_goals go_ret
  all_goals (
    obtain ⟨L',hG',hS',_⟩:=(HG.out.drew.below hb12).disk hq hp hO3 hv3
    exact ⟨L',rfl,hG',(GStep.of_below ((Below.refl _ _).drew.trans hb12)).trans hS'⟩)
set_option maxRecDepth 100000 in
set_option maxHeartbeats 6400000 in
theorem anew_any {w:World} {G:Nat} {L:GL} {g:Gr} (h:GAt w G L g) (i:Nat) {q:ML} {p:Mb × Vt} (hq:L.mem[i]?=some q) (hp:g.ms[i]?=some p) (hn:g.ms.length≤16) (hx:VtOk p.2) (hok:newOk ((i:Int)+1) g.ms.length p.2.2.2.1 p.2.2.2.2.1 0 0 p.2.2.2.2.2=true) :
    Calls Tryz.prog 26 #[.pointer (some ⟨G,0,none⟩),.int .i64 ((i:Int)+1)] w (RetG ⟨g.ms.set i (fresh ((i:Int)+1) g.ms.length p.2,p.2),g.net⟩ G L (.tuple #[]) w):=by
  have hi:i<g.ms.length:=(List.getElem?_eq_some_iff.1 hp).1
  have HOF:=Lib.hid (of_any h i hi hn)
  obtain ⟨c0,c1,f0,f1,hlt⟩:=h.ptrs hq
  obtain ⟨hM,hV⟩:=h.mem i q p hq hp
  have HLD:Hid (Calls Tryz.prog 52 #[.pointer (some ⟨q.v,0,none⟩)] w (RetLoad p.2.2.2 w)):=load_any q.v (q.v+1) p.2 w hV (by omega) (by have:=held_le hx;omega)
  have HNE:Hid (∀ W A c,LogIn W A c p.2.2.2.2.2 → Calls Tryz.prog 53 #[.int .i64 ((i:Int)+1),.int .i64 (g.ms.length:Int),zV p.2.2.2.1 p.2.2.2.2.1,logV 0 0 A p.2.2.2.2.2.length c] W (RetNew (fresh ((i:Int)+1) g.ms.length p.2) W)):=fun W A c hl=>new_yes ((i:Int)+1) p.2.2.2.1 p.2.2.2.2.1 g.ms.length A c p.2.2.2.2.2 W hl hok
  have hrow:=h.row
  have HP0:Hid ((ptrV L.mem).toArray[i * 2]?=some (.pointer (some ⟨q.b,0,none⟩))):=by have:=(ptrV_at hq).1;simpa [Hid] using this
  obtain ⟨g0,g1,gf0,gf1,glt⟩:=h.cells
  have HG:=Lib.hid h
  clear h hV hM hx hok
  generalize fresh ((i:Int)+1) g.ms.length p.2=m' at *
  obtain ⟨m0,bs,n0,t,v,es⟩:=p
  simp only at HLD HNE
  go_enter Tryz.func26,Tryz.ntmps26
  go_upto_region 2 with (first
    | (go_at_call 29;refine HOF.out.mono ?_;rintro e wx ⟨rfl,hwx⟩;subst hwx)
    | (go_at_call 52;refine HLD.out.mono ?_;rintro e w1 ⟨A1,c1',rfl,own1,hb1⟩;simp only at own1))
  have hal:=zAE w1 (.cells #[.int .i64 t,.int .i64 v] 34) (.cells #[.int .i64 0,.int .i64 0,.slice A1 es.length c1'] 55)
  have b0:=zT w1 (.cells #[.int .i64 t,.int .i64 v] 34) (.cells #[.int .i64 0,.int .i64 0,.slice A1 es.length c1'] 55)
  have b1:=zR w1 (.cells #[.int .i64 t,.int .i64 v] 34) (.cells #[.int .i64 0,.int .i64 0,.slice A1 es.length c1'] 55)
  have hb2:=hb1.trans (hal.mono hb1.size)
  have own2:=zD own1 hal
  have rowW:=zA hb2 hrow
  have gW:=zA hb2 HG.out.blk
  generalize (w1.alloc (.cells #[.int .i64 t,.int .i64 v] 34)).alloc (.cells #[.int .i64 0,.int .i64 0,.slice A1 es.length c1'] 55)=W2 at *
  clear c0 c1 f0 f1 hlt g0 g1 gf0 gf1 glt
  generalize w1.heap.size=F at *
  obtain ⟨bc0,bc1,bf0,bf1,blt⟩:=box2 b0
  obtain ⟨lc0,lc1,lc2,lf0,lf1,lf2,llt⟩:=box3 b1
  obtain ⟨gc0,gc1,gf0,gf1,glt⟩:=box2 gW
  have rf:=zN rowW (i * 2)
  have rl:=zB rowW
  have rc:=(zE rowW (i * 2)).trans HP0.out
  have HN2:=Lib.hid (HNE.out _ A1 c1' (LogIn.of_own (own_drawn own2)))
  go_region_law (first
    | (go_simp;go_at_call 53;refine HN2.out.mono ?_;rintro e w3 ⟨b3,a3,rfl,H3,hF3,hb3⟩;have row3:=zA hb3 (zM rowW);have rf3:=zN row3 (i * 2);have rl3:=zB row3;have rc3:=(zE row3 (i * 2)).trans HP0.out;(try go_simp)))
  all_goals (
    refine bodyPost_end (results_none rfl _ _ _) rfl ?_
    obtain ⟨hG',hS'⟩:=HG.out.renew hq hp (hb2.drew.trans (hb3.mono hb2.size)) H3 (fun x hx=>Nat.le_trans hb2.size (hF3 x hx))
    exact ⟨_,rfl,hG',hS'⟩)
def setM (cs:Array Value):Nat → List Value → Array Value
  | _,[]=>cs
  | o,v :: vs=>setM (cs.setIfInBounds o v) (o+1) vs
theorem setM_toList (vs:List Value):∀ (cs:Array Value) (o:Nat),o+vs.length≤cs.size → (setM cs o vs).toList=cs.toList.take o ++ vs ++ cs.toList.drop (o+vs.length):=by
  induction vs with
  | nil=>intro cs o h;simp [setM]
  | cons v vs ih =>
    intro cs o h
    simp only [List.length_cons] at h
    rw [setM,ih _ _ (by simp;omega)]
    have h1:(cs.setIfInBounds o v).toList=cs.toList.set o v:=by simp
    rw [h1]
    have hlt:o<cs.toList.length:=by simp;omega
    rw [List.drop_set_of_lt (by omega),List.take_set,List.length_cons]
    have h2:(cs.toList.take (o+1)).set o v=cs.toList.take o ++ [v]:=by
      rw [List.take_succ_eq_append_getElem hlt,List.set_append_right _ _ (by rw [List.length_take];omega)]
      have:o - (List.take o cs.toList).length=0:=by rw [List.length_take];omega
      rw [this]
      rfl
    rw [h2,show o+1+vs.length=o+(vs.length+1) by omega]
    simp
theorem setM_size (vs:List Value):∀ (cs:Array Value) (o:Nat),(setM cs o vs).size=cs.size:=by
  induction vs with
  | nil=>intro cs o;rfl
  | cons v vs ih=>intro cs o;rw [setM,ih];simp
theorem blk_setCells {F:Nat} {t:TypeId} (vs:List Value):∀ (o:Nat) (w:World) (cs:Array Value),w.heap[F]?=some (.cells cs t) → (w.setCells F o vs).heap[F]?=some (.cells (setM cs o vs) t):=by
  induction vs with
  | nil=>intro o w cs h;exact h
  | cons v vs ih=>intro o w cs h;exact ih (o+1) _ _ (zQ h v)
theorem chg_setCells {S:List Nat} {F:Nat} (hF:F ∈ S) (vs:List Value):∀ (o:Nat) {a w:World},Chg S a w → Chg S a (w.setCells F o vs):=by
  induction vs with
  | nil=>intro o a w h;exact h
  | cons v vs ih=>intro o a w h;exact ih (o+1) (h.setCell (.inl hF) o v)
abbrev zMsg:List Value:=[.int .i64 0,.int .i64 0,.int .i64 0,.int .i64 0,.int .i64 0,.int .i64 0,.int .i64 0,.bool false,.slice none 0 0]
theorem run_clear_msg (w:World) (ty:TypeId) (b o c:Nat) (hc:∀ j,j<9 → (w.cell? ⟨b,o+j,none⟩).isSome=true) (hf:∀ j,j<9 → w.frozen? ⟨b,o+j,none⟩=false) :
    (Builtin.clear_ #[50] ty #[.slice (some ⟨b,o,none⟩) 1 c]).run Tryz.prog w=.ok (.tuple #[]) (w.setCells b o zMsg):=by
  have hv:(zeroValue 78).run Tryz.prog w=.ok (.agg #[.int .i64 0,.int .i64 0,.int .i64 0,.int .i64 0,.int .i64 0,.int .i64 0,.int .i64 0,.bool false,.slice none 0 0]) w:=by kernel_rfl
  have hst:=run_storeCells_cells (P:=Tryz.prog) b o zMsg 0 w (by simpa using hc) (by simpa using hf) (by intro v hv';simp only [zMsg,List.mem_cons,List.not_mem_nil,or_false] at hv';rcases hv' with rfl | rfl | rfl | rfl | rfl | rfl | rfl | rfl | rfl <;> rfl)
  simp only [Nat.add_zero] at hst
  have hz:(Builtin.zeroCells (Value.agg #[.int .i64 0,.int .i64 0,.int .i64 0,.int .i64 0,.int .i64 0,.int .i64 0,.int .i64 0,.bool false,.slice none 0 0]).cells 1).toList=zMsg:=by kernel_rfl
  simp [Builtin.clear_,run_underlying Tryz.underlying50,hv,hz,hst]
set_option maxHeartbeats 1600000 in
theorem cloneM_any (a:Option Addr) (cap n:Nat) (xs:List Value) (w:World) (hr:RowAt w a xs) (hn0:a=none → n=0) (hL:xs.length=n * 9) (h1:∀ u ∈ xs,u.oneCell'=true) (hs:n≤1000000) :
    Calls Tryz.prog 64 #[.slice a n cap] w (zAZ 78 9 n xs w):=by
  have q:=fun (w:World) (a:Option Addr) (n c n' c':Nat)=>Lib.run_eql_slice_nil w 50 78 a n c n' c' Tryz.underlying50
  cases a with
  | none =>
    have h0:=hn0 rfl
    subst h0
    obtain rfl:=List.eq_nil_of_length_eq_zero (by simpa using hL)
    clear hr hL
    go_enter Tryz.func64,Tryz.ntmps64
    go_wp2
    go_ret
    exact ⟨none,0,rfl,World.ownsRow_nil _ _ _ _,zK _⟩
  | some p =>
    have HR:=Lib.hid hr
    have HL:=Lib.hid hL
    clear hr hL
    go_enter Tryz.func64,Tryz.ntmps64
    go_wp2_with (at_builtin;refine zF rfl (.tmp 5) (.tmp 6) rfl elemM w.heap.size _ 0 [] (by rfl) (World.ownsRow_made w #[] 0 (Nat.le_refl _) (Nat.zero_le _) (by simp)) (some p) n cap xs (by rfl) HL.out (HR.out.alloc _) h1 (by unfold maxLen;omega) (by omega) (by simp) (fun h=>by cases h) ?_;intro a1 c1 w1 hown hg hat)
    simp only [Nat.zero_add,List.nil_append] at hown
    go_ret
    exact ⟨a1,c1,rfl,hown,Below.appended (zC w _) (World.ownsRow_made (size:=9) w #[] 0 (Nat.le_refl _) (Nat.zero_le _) (by simp)) hg (by simp) (Nat.le_refl _)⟩
def RetDel (b cap n:Nat) (xs:List Value) (w:World) (en:Ending) (w':World):Prop:=en=.returned (.slice (some ⟨b,0,none⟩) n cap)∧w'.ownsRow b 78 9 (.slice (some ⟨b,0,none⟩) n cap) n xs∧Chg [b] w w'
set_option maxRecDepth 100000 in
set_option maxHeartbeats 6400000 in
theorem deleteM_any (b cap n i:Nat) (xs:List Value) (w:World) (ho:w.ownsRow b 78 9 (.slice (some ⟨b,0,none⟩) n cap) n xs) (h1:∀ u ∈ xs,u.oneCell'=true) (hi:i<n) (hs:n≤1000000) :
    Calls Tryz.prog 63 #[.slice (some ⟨b,0,none⟩) n cap,.int .i64 (i:Int),.int .i64 ((i:Int)+1)] w (RetDel b cap (n - 1) (xs.take (i * 9) ++ xs.drop ((i+1) * 9)) w):=by
  obtain ⟨hxl,h0 | ⟨g,c',cur,hv,hg,hh,hnc,hcm,hsz,htk⟩⟩:=ho
  · cases h0.1
  injection hv with e1 _ e3
  injection e1 with e1
  injection e1 with e1
  subst e1 e3
  obtain ⟨news,hnews⟩:∃ news,news=xs.drop ((i+1) * 9):=⟨_,rfl⟩
  have hlen:news.length=(n - (i+1)) * 9:=by rw [hnews,List.length_drop,hxl];omega
  have hxs:∀ t u,xs[t]?=some u → cur[t]?=some u:=fun t u hu=>by
    rw [← htk,List.getElem?_take] at hu
    split at hu
    · simpa using hu
    · cases hu
  obtain ⟨A,hA,hsrc⟩:∃ A:Addr,(if cap=i+1 then some (⟨b,0,none⟩:Addr) else some ⟨b,(i+1) * 9,none⟩)=some A∧Hid (∀ t u,news[t]?=some u → w.drew.cell? (A.add t)=some u):=by
    by_cases h:cap=i+1
    · refine ⟨⟨b,0,none⟩,by simp [h],fun t u hu => ?_⟩
      have h0:news.length=0:=by rw [hlen];omega
      rw [List.length_eq_zero_iff.1 h0] at hu
      simp at hu
    · refine ⟨⟨b,(i+1) * 9,none⟩,by simp [h],fun t u hu => ?_⟩
      rw [hnews,List.getElem?_drop] at hu
      have:=zE hh ((i+1) * 9+t)
      rw [Addr.add_lit]
      exact this.trans (hxs _ u hu)
  have s1:Hid (news.length=(n - (i+1)) * 9):=hlen
  have s2:Hid (∀ u ∈ news,u.oneCell'=true):=fun u hu=>h1 u (by rw [hnews] at hu;exact List.mem_of_mem_drop hu)
  have s3:Hid (∀ t,t<news.length → (w.drew.cell? ⟨b,0+i * 9+t,none⟩).isSome=true∧w.drew.frozen? ⟨b,0+i * 9+t,none⟩=false):=by
    intro t ht
    rw [hlen] at ht
    refine ⟨?_,zN hh _⟩
    show (w.cell? ⟨b,0+i * 9+t,none⟩).isSome=true
    rw [zE hh]
    simp
    omega
  obtain ⟨W1,hW1⟩:∃ W1,W1=w.drew.setCells b (0+i * 9) news:=⟨_,rfl⟩
  have hB1:W1.heap[b]?=some (.cells (setM cur (i * 9) news) 78):=by
    rw [hW1,Nat.zero_add]
    exact blk_setCells news (i * 9) w.drew cur hh
  have hC1:Chg [b] w W1:=by rw [hW1];exact chg_setCells (by simp) news _ (Chg.refl _ _).drew
  have hcl:∀ ty,(Builtin.clear_ #[50] ty #[.slice (some ⟨b,(n - 1) * 9,none⟩) 1 (cap - (n - 1))]).run Tryz.prog W1=.ok (.tuple #[]) (W1.setCells b ((n - 1) * 9) zMsg):=fun ty =>
    run_clear_msg W1 ty b ((n - 1) * 9) _ (fun j hj=>by rw [zE hB1];simp [setM_size];omega) (fun j hj=>zN hB1 _)
  have hB2:=blk_setCells zMsg ((n - 1) * 9) W1 _ hB1
  have hC2:Chg [b] w (W1.setCells b ((n - 1) * 9) zMsg):=chg_setCells (by simp) zMsg _ hC1
  have hfin:(W1.setCells b ((n - 1) * 9) zMsg).ownsRow b 78 9 (.slice (some ⟨b,0,none⟩) (n - 1) cap) (n - 1) (xs.take (i * 9) ++ xs.drop ((i+1) * 9)):=by
    refine ⟨by rw [List.length_append,List.length_take,List.length_drop,hxl];omega,.inr ⟨b,cap,_,rfl,Nat.le_refl _,hB2,by omega,hcm,by rw [setM_size,setM_size];exact hsz,?_⟩⟩
    rw [setM_toList _ _ _ (by rw [setM_size];simp;omega),List.append_assoc,List.take_append_of_le_length (by rw [List.length_take,Array.length_toList,setM_size];omega),List.take_take,Nat.min_self,setM_toList _ _ _ (by omega)]
    have e2:(cur.toList.take (i * 9))=xs.take (i * 9):=by rw [← htk,List.take_take,Nat.min_eq_left (by omega)]
    rw [e2,← hnews,List.take_append_of_le_length (by rw [List.length_append,List.length_take,hxl,hlen];omega),List.take_of_length_le (by rw [List.length_append,List.length_take,hxl,hlen];omega)]
  have hW:Hid (W1=w.drew.setCells b (0+i * 9) news):=hW1
  have HF:=Lib.hid hfin
  have HC:=Lib.hid hC2
  have hlt:(i:Int)<(i:Int)+1:=by omega
  have hi0:(0:Int)≤(i:Int):=by omega
  have hin:(i:Int)+1≤(n:Int):=by omega
  have hne:((i:Int) == (i:Int)+1)=false:=by simp;omega
  clear hW1 hB1 hC1 hB2 hC2 hfin hh hsz htk hxs hnews hlen hxl
  go_enter Tryz.func63,Tryz.ntmps63
  have hs1:∀ W,(Instr.slice 50 (.slice (some ⟨b,0,none⟩) n cap) none (some (.int .i64 (i:Int))) none).run Tryz.prog W=.ok (.slice (some ⟨b,0,none⟩) i cap) W:=fun W=>zCN (P:=Tryz.prog) elemM (some ⟨b,0,none⟩) n cap i (by omega) W
  have hs2:∀ W,(Instr.slice 50 (.slice (some ⟨b,0,none⟩) n cap) (some (.int .i64 ((i:Int)+1))) none none).run Tryz.prog W=.ok (.slice (some A) (n - (i+1)) (cap - (i+1))) W:=fun W=>by
    have:=slice_fromS (P:=Tryz.prog) elemM (some ⟨b,0,none⟩) n cap (i+1) (by omega) W
    rw [show (((i+1:Nat)):Int)=(i:Int)+1 by omega] at this
    rw [this,← hA]
    unfold cutS
    split <;> simp [Addr.add]
  obtain ⟨i0,hi0',hz0,hz1,hz2⟩:=info_parts elemM.info
  go_upto_region 5 with fail
  go_region_law (refine step_append_room rfl (.tmp 22) (.tmp 25) 50 rfl 78 i0 9 Tryz.underlying50 hi0' hz1 b 0 i cap (by rfl) A (n - (i+1)) (cap - (i+1)) news (by rfl) s1.out hsrc.out s2.out (by omega) s3.out ?_;rw [← hW.out])
  have hcl2:∀ ty,(Builtin.clear_ #[50] ty #[.slice (some ⟨b,(i+(n - (i+1))) * 9,none⟩) (n - (i+(n - (i+1)))) (cap - (i+(n - (i+1))))]).run Tryz.prog W1=.ok (.tuple #[]) (W1.setCells b ((n - 1) * 9) zMsg):=fun ty=>by
    have e1:i+(n - (i+1))=n - 1:=by omega
    have e2:n - (n - 1)=1:=by omega
    rw [e1,e2]
    exact hcl ty
  clear hcl
  go_wp2
  have e1:i+(n - (i+1))=n - 1:=by omega
  go_ret
  rw [e1]
  exact ⟨rfl,HF.out,HC.out⟩
def RetB (B0:Nat) (g':Gr) (G:Nat) (L:GL) (v:Value) (w:World) (e:Ending) (w':World):Prop:=∃ L',e=.returned v∧GAt w' G L' g'∧Chg (gall G L) w w'∧∀ x ∈ gall G L',x ∈ gall G L∨B0≤x
theorem msV_append {ms ns:List Ms} {sl tl:List (Option Addr × Nat)} (h:sl.length=ms.length):msV (ms ++ ns) (sl ++ tl)=msV ms sl ++ msV ns tl:=by
  induction ms generalizing sl with
  | nil =>
    obtain rfl:=List.eq_nil_of_length_eq_zero h
    simp [msV]
  | cons m ms ih =>
    cases sl with
    | nil=>simp at h
    | cons t sl =>
      simp only [List.length_cons,Nat.add_right_cancel_iff] at h
      simp only [List.cons_append,msV,List.headD_cons,List.tail_cons]
      rw [ih h,List.append_assoc]
theorem MsAt.join {w:World} {A A' A2:Option Addr} {c c' c2:Nat} {ms ns:List Ms} {sl tl:List (Option Addr × Nat)} (h:MsAt w 0 A c ms sl) (k:MsAt w 0 A' c' ns tl) {w2:World}
    (hown:w2.ownsRow 0 78 9 (.slice A2 (ms ++ ns).length c2) (ms ++ ns).length (msV ms sl ++ msV ns tl)) (hc:Chg (zU A) w w2):MsAt w2 0 A2 c2 (ms ++ ns) (sl ++ tl):=by
  have hK:∀ {B:Option Addr} {n cap:Nat} {xs:List Value},w.ownsRow 0 42 7 (.slice B n cap) n xs → w2.ownsRow 0 42 7 (.slice B n cap) n xs:=fun ho=>zAL ho hc fun y hy hA=>by
    obtain ⟨cs,h1⟩:=zAY ho hy
    obtain ⟨ds,h2⟩:=zAY h.own hA
    exact zBK h1 h2 (by decide) rfl
  refine ⟨by rw [msV_append h.len];exact hown,by simp [h.len,k.len],fun j hj => ?_⟩
  by_cases hlt:j<ms.length
  · have e1:(ms ++ ns)[j]=ms[j]:=List.getElem_append_left hlt
    have e2:(sl ++ tl).getD j (none,0)=sl.getD j (none,0):=by rw [List.getD_eq_getElem?_getD,List.getD_eq_getElem?_getD,List.getElem?_append_left (by rw [h.len];exact hlt)]
    rw [e1,e2]
    exact hK (h.ents j hlt)
  · have hj2:j - ms.length<ns.length:=by rw [List.length_append] at hj;omega
    have e1:(ms ++ ns)[j]=ns[j - ms.length]:=List.getElem_append_right (by omega)
    have e2:(sl ++ tl).getD j (none,0)=tl.getD (j - ms.length) (none,0):=by rw [List.getD_eq_getElem?_getD,List.getD_eq_getElem?_getD,List.getElem?_append_right (by rw [h.len];omega),h.len]
    rw [e1,e2]
    exact hK (k.ents _ hj2)
theorem gownBlock_mem {A:Option Addr} {n c:Nat} {b:Nat} (h:(Value.slice A n c).ownBlock=some b):b ∈ zU A:=by
  cases A with
  | none=>cases h
  | some a=>simp [Value.ownBlock] at h;simp [zU,h]
theorem gownBlock_of {A:Option Addr} {n c:Nat} {b:Nat} (h:b ∈ zU A):(Value.slice A n c).ownBlock=some b:=by
  cases A with
  | none=>cases h
  | some a=>simp [zU] at h;simp [Value.ownBlock,h]
def Gr.actsM (g:Gr) (i:Nat) (p:Mb × Vt) (said:List Ms):Gr :=
  if saves p.1 p.2=0 then ⟨g.ms.set i (p.1,syncV (saved p.1 p.2)),g.net ++ said⟩ else ⟨g.ms.set i (fresh ((i:Int)+1) g.ms.length p.2,p.2),g.net⟩
theorem GStep.far {w w':World} {G:Nat} {L L':GL} (h:GStep w G L w' L') {y:Nat} (hy:y<w.heap.size) (hn:y ∉ gall G L):y ∉ gall G L':=fun hc=>by
  rcases h.sub y hc with h1 | h1
  · exact hn h1
  · omega
theorem GAt.slots {w:World} {G:Nat} {L:GL} {g:Gr} (h:GAt w G L g) {i:Nat} (hi:i<g.ms.length):∃ q,L.mem[i]?=some q:=⟨_,List.getElem?_eq_getElem (by rw [h.len];exact hi)⟩
set_option maxRecDepth 100000 in
set_option maxHeartbeats 6400000 in
theorem acts_any {w:World} {G:Nat} {L:GL} {g:Gr} (h:GAt w G L g) (i:Nat) {p:Mb × Vt} (hp:g.ms[i]?=some p) (hn:g.ms.length≤16) (hm:MbOk p.1) (hwf:∀ e ∈ p.1.log,EnWf e) (hx:VtOk p.2) (hl:p.2.1.length≤65536)
    (hok:newOk ((i:Int)+1) g.ms.length p.2.2.2.1 p.2.2.2.2.1 0 0 p.2.2.2.2.2=true) {said:List Ms} {A:Option Addr} {c:Nat} {sl:List (Option Addr × Nat)} (hms:MsAt w 0 A c said sl) (hsA:∀ y ∈ zU A,y ∉ gall G L) (hsS:∀ s ∈ sl,∀ y ∈ zU s.1,y ∉ gall G L)
    {B0:Nat} (hB0:B0≤w.heap.size) (hsB:∀ s ∈ sl,∀ y ∈ zU s.1,B0≤y) (hsl:said.length≤100) (hnet:g.net.length≤1000000) :
    Calls Tryz.prog 28 #[.pointer (some ⟨G,0,none⟩),.int .i64 ((i:Int)+1),.slice A said.length c] w (RetB B0 (g.actsM i p said) G L (.tuple #[]) w):=by
  have hi:i<g.ms.length:=(List.getElem?_eq_some_iff.1 hp).1
  obtain ⟨q,hq⟩:=h.slots hi
  have HSV:=Lib.hid (gsave_any h i hq hp hn hm hwf hx hl)
  have hlA:∀ y ∈ zU A,y<w.heap.size:=fun y hy=>by obtain ⟨cs,hcs⟩:=zAY hms.own hy;exact zB hcs
  have hlS:∀ s ∈ sl,∀ y ∈ zU s.1,y<w.heap.size:=fun s hs y hy=>by
    obtain ⟨k,hk⟩:=List.getElem?_of_mem hs
    obtain ⟨hk1,hk2⟩:=List.getElem?_eq_some_iff.1 hk
    have:=hms.ents k (by rw [← hms.len];exact hk1)
    rw [List.getD_eq_getElem?_getD,hk] at this
    obtain ⟨cs,hcs⟩:=zAY this hy
    exact zB hcs
  by_cases hs:saves p.1 p.2=0
  rotate_left 1
  · have hs1:(saves p.1 p.2 != 0)=true:=by simpa using hs
    have hv:saved p.1 p.2=p.2:=saveV_no hs
    have HE:Hid (g.actsM i p said=⟨g.ms.set i (fresh ((i:Int)+1) g.ms.length p.2,p.2),g.net⟩):=if_neg hs
    rw [hv] at HSV
    have HAN:Hid (∀ W L1,GAt W G L1 ⟨g.ms.set i (p.1,p.2),g.net⟩ → Calls Tryz.prog 26 #[.pointer (some ⟨G,0,none⟩),.int .i64 ((i:Int)+1)] W (RetG ⟨(g.ms.set i (p.1,p.2)).set i (fresh ((i:Int)+1) g.ms.length p.2,p.2),g.net⟩ G L1 (.tuple #[]) W)):=fun W L1 h1=>by
      have hi1:i<(g.ms.set i (p.1,p.2)).length:=by rw [List.length_set];exact hi
      obtain ⟨q1,hq1⟩:=h1.slots hi1
      have:=anew_any h1 i (p:=(p.1,p.2)) hq1 (by simp [hi]) (by simp only [List.length_set];exact hn) hx (by simp only [List.length_set];exact hok)
      simpa only [List.length_set] using this
    generalize saves p.1 p.2=se at *
    clear h hm hwf hx hl hok hms hs
    go_enter Tryz.func28,Tryz.ntmps28
    go_wp2_with (first
      | (go_at_call 35;refine HSV.out.mono ?_;rintro e w1 ⟨L1,rfl,h1,S1⟩;have HA1:=Lib.hid (HAN.out _ _ h1))
      | (go_at_call 26;refine HA1.out.mono ?_;rintro e w2 ⟨L2,rfl,h2,S2⟩))
    refine bodyPost_end (results_none rfl _ _ _) rfl ?_
    have S3:=S1.trans S2
    rw [HE.out]
    rw [List.set_set] at h2
    exact ⟨L2,rfl,h2,S3.chg,fun x hx=>(S3.sub x hx).imp id fun q=>Nat.le_trans hB0 q⟩
  · have HE:Hid (g.actsM i p said=⟨g.ms.set i (p.1,syncV (saved p.1 p.2)),g.net ++ said⟩):=if_pos hs
    rw [hs] at HSV
    have hp1:(g.ms.set i (p.1,saved p.1 p.2))[i]?=some (p.1,saved p.1 p.2):=by simp [hi]
    have hi1:i<(g.ms.set i (p.1,saved p.1 p.2)).length:=by rw [List.length_set];exact hi
    have hn1:(g.ms.set i (p.1,saved p.1 p.2)).length≤16:=by rw [List.length_set];exact hn
    have hii:(g.ms.set i (p.1,saved p.1 p.2)).set i (p.1,syncV (saved p.1 p.2))=g.ms.set i (p.1,syncV (saved p.1 p.2)):=List.set_set ..
    generalize saved p.1 p.2=sv at *
    generalize hg1:g.ms.set i (p.1,sv)=ms1 at *
    have HSY:Hid (∀ W L1 q1,GAt W G L1 ⟨ms1,g.net⟩ → L1.mem[i]?=some q1 → Calls Tryz.prog 54 #[.pointer (some ⟨q1.v,0,none⟩)] W fun e w'=>e=.returned (.tuple #[])∧VtAt w' q1.v (q1.v+1) (fun y=>y ∈ q1.r) (syncV sv)∧Only q1.v W w'):=fun W L1 q1 h1 hq1=>sync_any q1.v (q1.v+1) sv W (h1.mem i q1 _ hq1 hp1).2 (by omega)
    have HMS:=Lib.hid hms
    clear h hm hwf hx hl hok hms hs
    go_enter Tryz.func28,Tryz.ntmps28
    go_upto_region 3 with (first
      | (go_at_call 35;refine HSV.out.mono ?_;rintro e w1 ⟨L1,rfl,h1,S1⟩;have HO1:=Lib.hid (of_any h1 i hi1 hn1);obtain ⟨q1,hq1⟩:=h1.slots hi1;obtain ⟨c0,c1,f0,f1,hlt⟩:=h1.ptrs hq1;have HY1:=Lib.hid (HSY.out _ _ _ h1 hq1))
      | (go_at_call 29;refine HO1.out.mono ?_;rintro e wx ⟨rfl,hwx⟩;subst hwx)
      | (go_at_call 54;refine HY1.out.mono ?_;rintro e w2 ⟨rfl,hv2,hO2⟩))
    obtain ⟨L2,h2,S2,_⟩:=h1.disk hq1 hp1 hO2 (by obtain ⟨D,cd,A',c',g1,o1,o2,oP⟩:=hv2;exact ⟨D,cd,A',c',g1,o1,o2,fun y hy=>.inl (oP y hy)⟩)
    have S3:=S1.trans S2
    have M2:=HMS.out.chg S3.chg hsA hsS
    obtain ⟨g0,g1,gf0,gf1,glt⟩:=h2.cells
    have hnlen:(g.net.length+said.length)≤1000100:=by omega
    have hGne:∀ b,(Value.slice L2.na g.net.length L2.nc).ownBlock=some b → b≠G:=fun b hb e=>by
      subst e
      have hb2:b ∈ zU L2.na:=by
        cases hna:L2.na with
        | none=>rw [hna] at hb;cases hb
        | some a=>rw [hna] at hb;simp [Value.ownBlock] at hb;simp [zU,hb]
      obtain ⟨cs,hcs⟩:=zAY h2.net.own hb2
      exact zBK hcs h2.blk (by decide) rfl
    have hA0:A=none → said.length=0:=fun e=>by
      rcases M2.own.2 with ⟨_,h0⟩ | ⟨b,cap,cur,hv,_⟩
      · exact h0
      · rw [e] at hv;cases hv
    have HM2:=Lib.hid M2
    have HH2:=Lib.hid h2
    have hr2:=RowAt.of_own M2.own
    have ho2:=h2.net.own
    clear M2 h2 c0 c1 f0 f1 hlt
    go_wp2_with (at_builtin;refine zF rfl (.tmp 24) (.tmp 25) rfl elemM 0 (.slice L2.na g.net.length L2.nc) g.net.length (msV g.net L2.sl) (by rfl) ho2 A said.length c (msV said sl) (by rfl) (msV_length _ _) hr2 (msV_one _ _) (by unfold maxLen;omega) (by omega) (Nat.zero_le _) hA0 ?_;intro a3 c3 w3 own3 hg3 hat3;have G3:=zY hg3 HH2.out.blk (fun e=>hGne _ e rfl);obtain ⟨k0,k1,kf0,kf1,klt⟩:=box2 G3)
    refine bodyPost_end (results_none rfl _ _ _) rfl ?_
    rw [HE.out]
    have hC3:Chg (zU L2.na) w2 w3:=(Chg.refl _ _).grown hg3 fun b hb=>.inl (gownBlock_mem hb)
    have hJ:=HH2.out.net.join HM2.out (A2:=a3) (c2:=c3) (by rw [List.length_append];exact own3) hC3
    have hz3:=S3.chg.size
    obtain ⟨hG4,hC4,hS4⟩:=HH2.out.netTo (B0:=B0) hC3 hJ (fun s hs y hy r hr hc=>by
      rcases List.mem_append.1 hs with h1 | h1
      · exact HH2.out.sep s h1 y hy r hr hc
      · exact S3.far (hlS s h1 y hy) (hsS s h1 y hy) (zCS hr hc)) (fun x hx=>by
      rcases hat3 with h1 | h1
      · exact .inl (gownBlock_mem (h1.symm.trans (gownBlock_of hx)))
      · have:=(gownBlock_of (n:=g.net.length+said.length) (c:=c3) hx).symm.trans h1
        injection this with this
        exact .inr (by omega)) (fun s hs y hy=>by
      rcases List.mem_append.1 hs with h1 | h1
      · exact .inl (gall_s h1 hy)
      · exact .inr (hsB s h1 y hy))
    rw [List.length_append] at hG4 hC4
    rw [hii] at hG4
    exact ⟨_,rfl,hG4,S3.chg.trans hC4 S3.sub,fun x hx=>by
      rcases hS4 x hx with h1 | h1
      · exact (S3.sub x h1).imp id fun q=>Nat.le_trans hB0 q
      · exact .inr h1⟩
end Go.Proofs.YtnljdkglncmfaaaGreat
