/-
  Part Gf of the proof.
-/
import Derived.Test.YtnljdkglncmfaaaGreatGa
import Derived.Test.YtnljdkglncmfaaaGreatBn
import Derived.Test.YtnljdkglncmfaaaGreatGp
import Derived.Test.YtnljdkglncmfaaaGreatRaftS
import Derived.Test.YtnljdkglncmfaaaGreatBh
import Derived.Test.YtnljdkglncmfaaaGreatGe
import Derived.Test.YtnljdkglncmfaaaGreatBl
import Derived.Test.YtnljdkglncmfaaaGreatGc
import Derived.Test.YtnljdkglncmfaaaGreatRhI
import Derived.Test.YtnljdkglncmfaaaGreatRhJ
import Derived.Test.YtnljdkglncmfaaaGreatRf
namespace Go.Proofs.YtnljdkglncmfaaaGreat
open Go.RowKit
set_option linter.unusedVariables false
theorem of_raw {w:World} {G ma n m:Nat} {X:Value} (i:Nat) (hG:w.heap[G]?=some (.cells #[.slice (some ⟨ma,0,none⟩) n m,X] 65)) (hi:i<n) (hn:n≤16):Calls Tryz.prog 29 #[.pointer (some ⟨G,0,none⟩),.int .i64 ((i:Int)+1)] w fun e w'=>e=.returned (.pointer (some ⟨ma,i * 2,none⟩))∧w'=w:=by
  obtain ⟨c0,c1,f0,f1,hlt⟩:=box2 hG
  have hwr:IntKind.i64.wrap (i:Int)=(i:Int):=zS (by omega) (by omega)
  have hi0:(0:Int)≤(i:Int):=by omega
  have hi1:(i:Int)<(n:Int):=by omega
  clear hG
  go_enter Tryz.func29,Tryz.ntmps29
  go_wp2
  go_ret
  exact ⟨rfl,rfl⟩
def RetAnew (m':Mb) (ma i:Nat) (w:World) (e:Ending) (w':World):Prop:=e=.returned (.tuple #[])∧∃ b' a' w1,Below w.heap.size w w1∧MAt w1 b' a' m'∧(∀ y ∈ foot b' a',w.heap.size≤y)∧w'=w1.setCell ⟨ma,i * 2,none⟩ (.pointer (some ⟨b',0,none⟩))
set_option maxRecDepth 100000 in
set_option maxHeartbeats 6400000 in
theorem anew_raw {w:World} {G ma n m V:Nat} {X Y:Value} {R:Array Value} {P:Nat → Prop} {x:Vt} (i:Nat) (hG:w.heap[G]?=some (.cells #[.slice (some ⟨ma,0,none⟩) n m,X] 65)) (hrow:w.heap[ma]?=some (.cells R 70)) (hR:R[i * 2+1]?=some (.pointer (some ⟨V,0,none⟩))) (hR0:R[i * 2]?=some Y) (hi:i<n) (hn:n≤16) (hV:VtAt w V (V+1) P x) (hx:VtOk x)
    (hok:newOk ((i:Int)+1) n x.2.2.1 x.2.2.2.1 0 0 x.2.2.2.2=true):Calls Tryz.prog 26 #[.pointer (some ⟨G,0,none⟩),.int .i64 ((i:Int)+1)] w (RetAnew (fresh ((i:Int)+1) n x) ma i w):=by
  have HOF:=Lib.hid (of_raw i hG hi hn)
  have c1:=(zE hrow (i * 2+1)).trans hR
  have HP0:Hid (R[i * 2]?=some Y):=hR0
  have hlt:=zB hrow
  obtain ⟨csV,hcsV⟩:=hV.blkV
  have HLD:Hid (Calls Tryz.prog 52 #[.pointer (some ⟨V,0,none⟩)] w (RetLoad x.2.2 w)):=load_any V (V+1) x w hV (by omega) (by have:=held_le hx;omega)
  have HNE:Hid (∀ W A c,LogIn W A c x.2.2.2.2 → Calls Tryz.prog 53 #[.int .i64 ((i:Int)+1),.int .i64 (n:Int),zV x.2.2.1 x.2.2.2.1,logV 0 0 A x.2.2.2.2.length c] W (RetNew (fresh ((i:Int)+1) n x) W)):=fun W A c hl=>new_yes ((i:Int)+1) x.2.2.1 x.2.2.2.1 n A c x.2.2.2.2 W hl hok
  have HGB:=Lib.hid hG
  clear hV hx hok hcsV
  generalize fresh ((i:Int)+1) n x=m' at *
  obtain ⟨bs,n0,t,v,es⟩:=x
  simp only at HLD HNE
  obtain ⟨g0,g1,gf0,gf1,glt⟩:=box2 hG
  have c0:=(zE hrow (i * 2)).trans hR0
  have f0:=zN hrow (i * 2)
  have f1:=zN hrow (i * 2)
  go_enter Tryz.func26,Tryz.ntmps26
  go_upto_region 2 with (first
    | (go_at_call 29;refine HOF.out.mono ?_;rintro e wx ⟨rfl,hwx⟩;subst hwx)
    | (go_at_call 52;refine HLD.out.mono ?_;rintro e w1 ⟨A1,c1',rfl,own1,hb1⟩;simp only at own1))
  have hal:=zAE w1 (.cells #[.int .i64 t,.int .i64 v] 34) (.cells #[.int .i64 0,.int .i64 0,.slice A1 es.length c1'] 55)
  have b0:=zT w1 (.cells #[.int .i64 t,.int .i64 v] 34) (.cells #[.int .i64 0,.int .i64 0,.slice A1 es.length c1'] 55)
  have b1:=zR w1 (.cells #[.int .i64 t,.int .i64 v] 34) (.cells #[.int .i64 0,.int .i64 0,.slice A1 es.length c1'] 55)
  have hb2:=hb1.trans (hal.mono hb1.size)
  have own2:=zD own1 hal
  have rowW:=zA hb2 hrow
  have gW:=zA hb2 HGB.out
  generalize (w1.alloc (.cells #[.int .i64 t,.int .i64 v] 34)).alloc (.cells #[.int .i64 0,.int .i64 0,.slice A1 es.length c1'] 55)=W2 at *
  clear c0 c1 f0 f1 hlt g0 g1 gf0 gf1 glt
  generalize w1.heap.size=F at *
  obtain ⟨bc0,bc1,bf0,bf1,blt⟩:=box2 b0
  obtain ⟨lc0,lc1,lc2,lf0,lf1,lf2,llt⟩:=box3 b1
  obtain ⟨gc0,gc1,gf0,gf1,glt⟩:=box2 gW
  have rf:=zN rowW (i * 2)
  have rl:=zB rowW
  have rc:=(zE rowW (i * 2)).trans HP0.out
  have HN2:=Lib.hid (HNE.out _ A1 c1' (LogIn.of_own (own_drawn own2)))
  go_region_law (first
    | (go_simp;go_at_call 53;refine HN2.out.mono ?_;rintro e w3 ⟨b3,a3,rfl,H3,hF3,hb3⟩;have row3:=zA hb3 (zM rowW);have rf3:=zN row3 (i * 2);have rl3:=zB row3;have rc3:=(zE row3 (i * 2)).trans HP0.out;(try go_simp)))
  all_goals (
    refine bodyPost_end (results_none rfl _ _ _) rfl ?_
    exact ⟨rfl,b3,a3,w3,hb2.drew.trans (hb3.mono hb2.size),H3,fun y hy=>Nat.le_trans hb2.size (hF3 y hy),rfl⟩)
def nilV (k:Nat):List Value:=List.replicate k (.pointer none)
theorem nilV_two (k:Nat):nilV ((k+1) * 2)=.pointer none :: .pointer none :: nilV (k * 2):=by
  rw [show (k+1) * 2=k * 2+1+1 by omega]
  rfl
theorem row_next (l:List ML) (q:ML) (k:Nat):((ptrV l ++ nilV ((k+1) * 2)).set (l.length * 2+1) (.pointer (some ⟨q.v,0,none⟩))).set (l.length * 2) (.pointer (some ⟨q.b,0,none⟩))=ptrV (l ++ [q]) ++ nilV (k * 2):=by
  have h1:(ptrV l).length=l.length * 2:=zCZ l
  rw [nilV_two,List.set_append_right _ _ (by omega),List.set_append_right _ _ (by omega),h1,show l.length * 2+1 - l.length * 2=1 by omega,show l.length * 2 - l.length * 2=0 by omega]
  have h2:ptrV (l ++ [q])=ptrV l ++ [.pointer (some ⟨q.b,0,none⟩),.pointer (some ⟨q.v,0,none⟩)]:=by
    unfold ptrV
    rw [List.flatMap_append]
    rfl
  rw [h2,List.append_assoc]
  rfl
structure GPt (B:Nat) (w:World) (G ma n:Nat) (l:List ML):Prop where
  blk:w.heap[G]?=some (.cells #[.slice (some ⟨ma,0,none⟩) n n,.slice none 0 0] 65)
  row:w.heap[ma]?=some (.cells (ptrV l ++ nilV ((n - l.length) * 2)).toArray 70)
  le:l.length≤n
  mem:∀ (i:Nat) (q:ML),l[i]?=some q → MAt w q.b q.a (zBY ((i:Int)+1) n 0 0 [])∧VtAt w q.v (q.v+1) (fun y=>y ∈ ([]:List Nat)) vt0
  apart:∀ (i j:Nat) (q r:ML),i≠j → l[i]?=some q → l[j]?=some r → (∀ x ∈ foot q.b q.a,x ∉ foot r.b r.a)∧q.v≠r.v
  base:B≤G∧B≤ma∧∀ q ∈ l,(∀ x ∈ foot q.b q.a,B≤x)∧B≤q.v∧q.r=[]
theorem GPt.below {B:Nat} {w w':World} {G ma n:Nat} {l:List ML} (h:GPt B w G ma n l) (hb:Below w.heap.size w w'):GPt B w' G ma n l :=
  ⟨zA hb h.blk,zA hb h.row,h.le,fun i q hq=>⟨(h.mem i q hq).1.below hb,(h.mem i q hq).2.below hb⟩,h.apart,h.base⟩
theorem GPt.next {B : Nat} {w w1 w3 : World} {G ma n V b : Nat} {a : MA} {l : List ML} (h : GPt B w G ma n l) (hlt : l.length < n) (hB : B ≤ w.heap.size) (h1 : Below w.heap.size w w1) (hV : w.heap.size ≤ V) (hv : VtAt w1 V (V + 1) (fun _ => False) vt0)
    (h3:Below (w1.setCell ⟨ma,l.length * 2+1,none⟩ (.pointer (some ⟨V,0,none⟩))).heap.size (w1.setCell ⟨ma,l.length * 2+1,none⟩ (.pointer (some ⟨V,0,none⟩))) w3) (hm:MAt w3 b a (zBY ((l.length:Int)+1) n 0 0 [])) (hf:∀ y ∈ foot b a,w1.heap.size≤y) :
    GPt B (w3.setCell ⟨ma,l.length * 2,none⟩ (.pointer (some ⟨b,0,none⟩))) G ma n (l ++ [⟨b,a,V,[]⟩]):=by
  have hp:=h.below h1
  have hmaS:=zB hp.row
  have rw2:=zQ (i:=l.length * 2+1) hp.row (.pointer (some ⟨V,0,none⟩))
  have rw3:=zA h3 rw2
  have rw4:=zQ (i:=l.length * 2) rw3 (.pointer (some ⟨b,0,none⟩))
  have hC:Chg [ma] w1 (w1.setCell ⟨ma,l.length * 2+1,none⟩ (.pointer (some ⟨V,0,none⟩))):=(Chg.refl _ _).setCell (.inl (by simp)) _ _
  have hC2:Chg [ma] w1 (w3.setCell ⟨ma,l.length * 2,none⟩ (.pointer (some ⟨b,0,none⟩))):=(hC.below h3).setCell (.inl (by simp)) _ _
  have hGma:G≠ma:=zBK hp.blk hp.row (by decide)
  have hMof:∀ {b':Nat} {a':MA} {m':Mb},MAt w1 b' a' m' → MAt (w3.setCell ⟨ma,l.length * 2,none⟩ (.pointer (some ⟨b,0,none⟩))) b' a' m':=fun hM=>hM.chg hC2 fun x hx hc=>by
    rw [List.mem_singleton] at hc
    subst hc
    rcases hM.kind hx hp.row with e | e | e <;> exact absurd e (by decide)
  have hVof:∀ {V':Nat} {P:Nat → Prop} {x:Vt},VtAt w1 V' (V'+1) P x → VtAt (w3.setCell ⟨ma,l.length * 2,none⟩ (.pointer (some ⟨b,0,none⟩))) V' (V'+1) P x:=fun hv=>hv.chgRow hp.row (by decide) (by decide) (by decide) hC2
  have hmaf:ma ∉ foot b a:=fun hc=>by have:=hf ma hc;omega
  have hk:n - l.length=(n - (l.length+1))+1:=by omega
  refine ⟨?_,?_,by rw [List.length_append];simp;omega,?_,?_,⟨h.base.1,h.base.2.1,fun q hq => ?_⟩⟩
  · exact hC2.keep hp.blk (by simpa using hGma)
  · rw [rw4]
    congr 2
    apply Array.ext'
    simp only [Array.toList_setIfInBounds,List.length_append,List.length_singleton]
    rw [hk]
    exact row_next l ⟨b,a,V,[]⟩ (n - (l.length+1))
  · intro i q hq
    by_cases hi:i<l.length
    · rw [List.getElem?_append_left hi] at hq
      obtain ⟨k1,k2⟩:=hp.mem i q hq
      exact ⟨hMof k1,hVof k2⟩
    · rw [List.getElem?_append_right (by omega)] at hq
      have hi0:i=l.length:=by
        have:=(List.getElem?_eq_some_iff.1 hq).1
        simp at this
        omega
      subst hi0
      simp at hq
      subst hq
      refine ⟨hm.chg ((Chg.refl [ma] w3).setCell (.inl (by simp)) _ _) fun x hx hc => ?_,?_⟩
      · rw [List.mem_singleton] at hc
        subst hc
        exact hmaf hx
      · have:=hVof hv
        obtain ⟨D,cd,A,c,g,o1,o2,oP⟩:=this
        exact ⟨D,cd,A,c,g,o1,o2,fun y hy=>(oP y hy).elim⟩
  · intro i j q r hne hq hr
    by_cases hi:i<l.length <;> by_cases hj:j<l.length
    · rw [List.getElem?_append_left hi] at hq
      rw [List.getElem?_append_left hj] at hr
      exact h.apart i j q r hne hq hr
    · rw [List.getElem?_append_left hi] at hq
      rw [List.getElem?_append_right (by omega)] at hr
      have hj0:j - l.length=0:=by have:=(List.getElem?_eq_some_iff.1 hr).1;simp at this;omega
      rw [hj0] at hr
      simp at hr
      subst hr
      obtain ⟨k1,k2⟩:=h.mem i q hq
      refine ⟨fun x hx hc => ?_,?_⟩
      · have:=k1.lt x hx;have:=hf x hc;have:=h1.size;omega
      · obtain ⟨cs,hcs⟩:=k2.blkV
        have:=zB hcs
        show q.v≠V
        omega
    · rw [List.getElem?_append_left hj] at hr
      rw [List.getElem?_append_right (by omega)] at hq
      have hj0:i - l.length=0:=by have:=(List.getElem?_eq_some_iff.1 hq).1;simp at this;omega
      rw [hj0] at hq
      simp at hq
      subst hq
      obtain ⟨k1,k2⟩:=h.mem j r hr
      refine ⟨fun x hx hc => ?_,?_⟩
      · have:=k1.lt x hc;have:=hf x hx;have:=h1.size;omega
      · obtain ⟨cs,hcs⟩:=k2.blkV
        have:=zB hcs
        show V≠r.v
        omega
    · have q1:=(List.getElem?_eq_some_iff.1 hq).1
      have q2:=(List.getElem?_eq_some_iff.1 hr).1
      simp at q1 q2
      omega
  · rcases List.mem_append.1 hq with h4 | h4
    · exact h.base.2.2 q h4
    · rw [List.mem_singleton] at h4
      subst h4
      exact ⟨fun x hx=>by have:=hf x hx;have:=h1.size;omega,by show B≤V;omega,rfl⟩
theorem GPt.whole {B:Nat} {w:World} {G ma n:Nat} {l:List ML} (h:GPt B w G ma n l) (hl:l.length=n):GAt w G ⟨l,ma,n,none,0,[]⟩ (newGr n)∧∀ x ∈ gall G ⟨l,ma,n,none,0,[]⟩,B≤x:=by
  have hms:(newGr n).ms.length=n:=by simp [newGr]
  have hr:=h.row
  rw [hl,Nat.sub_self,Nat.zero_mul] at hr
  have hb:=h.blk
  refine ⟨⟨?_,by rw [hms];exact hl,?_,?_,MsAt.nil _ _,h.apart,?_,(fun s hs=>by cases hs),?_⟩,?_⟩
  · rw [hms];exact hb
  · simpa [nilV] using hr
  · intro i q p hq hp
    have hi:i<n:=by rw [← hl];exact (List.getElem?_eq_some_iff.1 hq).1
    have hpe:p=(zBY ((i:Int)+1) n 0 0 [],vt0):=by
      unfold newGr at hp
      simp only [List.getElem?_map,List.getElem?_range hi,Option.map_some] at hp
      injection hp with hp
      exact hp.symm
    subst hpe
    have hrq:=(h.base.2.2 q (List.mem_of_getElem? hq)).2.2
    rw [hrq]
    exact h.mem i q hq
  · intro q hq r _ x hx
    rw [(h.base.2.2 q hq).2.2] at hx
    cases hx
  · intro q hq x hx
    rw [(h.base.2.2 q hq).2.2] at hx
    cases hx
  · intro x hx
    rcases gall_cases hx with rfl | rfl | hx | ⟨q,hq,hx⟩ | ⟨s,hs,hx⟩
    · exact h.base.1
    · exact h.base.2.1
    · cases hx
    · obtain ⟨k1,k2,k3⟩:=h.base.2.2 q hq
      rcases hx with hx | rfl | hx
      · exact k1 x hx
      · exact k2
      · rw [k3] at hx;cases hx
    · cases hs
theorem elemG:Elem Tryz.prog 63 70 (.agg #[.pointer none,.pointer none]) 2 16:=⟨Tryz.underlying63,by kernel_rfl,rfl,by omega⟩
theorem nil_rep (n:Nat):(madeCells (Value.agg #[.pointer none,.pointer none]).cells (n * 2)).toList=nilV (n * 2):=by
  apply List.ext_getElem?
  intro i
  by_cases hi:i<n * 2
  · have h1:(nilV (n * 2))[i]?=some (.pointer none):=by simp [nilV,hi]
    rw [h1]
    have hm:i % 2=0∨i % 2=1:=by omega
    rcases hm with h | h <;> simp [madeCells,Value.cells,hi,h]
  · rw [List.getElem?_eq_none (by simp [madeCells];omega),List.getElem?_eq_none (by simp [nilV];omega)]
def RetGr (n:Nat) (w:World) (e:Ending) (w':World):Prop:=∃ G L,e=.returned (.tuple #[.pointer (some ⟨G,0,none⟩),.int .i64 0])∧GAt w' G L (newGr n)∧(∀ x ∈ gall G L,w.heap.size≤x)∧Below w.heap.size w w'
set_option maxHeartbeats 1600000 in
theorem gnew_no (many:Int) (w:World) (h:many<1∨16<many):Calls Tryz.prog 11 #[.int .i64 many] w fun e w'=>e=.returned (.tuple #[.pointer none,.int .i64 1])∧w'=w:=by
  by_cases h1:many<1
  · clear h
    go_enter Tryz.func11,Tryz.ntmps11
    go_wp2
    go_ret2
    exact ⟨rfl,rfl⟩
  · have h2:16<many:=by omega
    clear h
    go_enter Tryz.func11,Tryz.ntmps11
    go_wp2
    go_ret2
    exact ⟨rfl,rfl⟩
set_option maxRecDepth 100000 in
set_option maxHeartbeats 6400000 in
theorem gnew_any (n : Nat) (w : World) (h1 : 1 ≤ n) (h16 : n ≤ 16) : Calls Tryz.prog 11 #[.int .i64 (n : Int)] w (RetGr n w) := by
  obtain ⟨CS,hCS,hmk⟩:∃ CS:Array Value,CS.toList=nilV (n * 2)∧∀ W,(Instr.makeSlice 63 (.int .i64 (n:Int)) (.int .i64 (n:Int))).run Tryz.prog W=.ok (.slice (some ⟨W.heap.size,0,none⟩) n n) (W.alloc (.cells CS 70)):=by
    obtain ⟨i,hi,hz,hsize,hby⟩:=info_parts elemG.info
    refine ⟨_,nil_rep n,fun W => ?_⟩
    have:=run_make (P:=Tryz.prog) W 63 70 i _ elemG.under hi hz .i64 .i64 (n:Int) (n:Int) (by omega) (by omega) (by rw [hby];omega) (by omega)
    rw [hsize] at this
    simpa using this
  have hCA:CS=(nilV (n * 2)).toArray:=Array.ext' (by simpa using hCS)
  subst hCA
  clear hCS
  have hn1:(1:Int)≤(n:Int):=by omega
  have hn2:(n:Int)≤16:=by omega
  have hg0:=zT w (.cells (nilV (n * 2)).toArray 70) (.cells #[.slice (some ⟨w.heap.size,0,none⟩) n n,.slice none 0 0] 65)
  have hg1:=zR w (.cells (nilV (n * 2)).toArray 70) (.cells #[.slice (some ⟨w.heap.size,0,none⟩) n n,.slice none 0 0] 65)
  have hal:=zAE w (.cells (nilV (n * 2)).toArray 70) (.cells #[.slice (some ⟨w.heap.size,0,none⟩) n n,.slice none 0 0] 65)
  have hGP:GPt w.heap.size ((w.alloc (.cells (nilV (n * 2)).toArray 70)).alloc (.cells #[.slice (some ⟨w.heap.size,0,none⟩) n n,.slice none 0 0] 65)) (w.heap.size+1) w.heap.size n []:=⟨hg1,by simpa [ptrV] using hg0,Nat.zero_le _,fun i q hq=>by simp at hq,fun i j q r _ hq=>by simp at hq,by omega,by omega,fun q hq=>by cases hq⟩
  obtain ⟨c0,c1,f0,f1,hlt⟩:=box2 hg1
  go_enter Tryz.func11,Tryz.ntmps11
  go_wp2
  clear c0 c1 f0 f1 hlt hg0 hg1
  generalize (w.alloc (.cells (nilV (n * 2)).toArray 70)).alloc (.cells #[.slice (some ⟨w.heap.size,0,none⟩) n n,.slice none 0 0] 65)=w0 at *
  go_loopw [21] (fun i wr=>∃ (l:List ML),i=.int .i64 (l.length:Nat)∧GPt w.heap.size wr (w.heap.size+1) w.heap.size n l∧Below w.heap.size w wr) (fun i _=>n - (intOf i).toNat)
  case atStart=>exact ⟨[],rfl,hGP,hal⟩
  case round =>
    clear hGP hal
    obtain ⟨l,rfl,hP,hB⟩:=hrel
    have hk0:(0:Int)≤(l.length:Int):=by omega
    have hle:=hP.le
    obtain ⟨c0,c1,f0,f1,hlt⟩:=box2 hP.blk
    by_cases hlt2:l.length<n
    · have hk1:(l.length:Int)<(n:Int):=by omega
      have hwr:IntKind.i64.wrap ((l.length:Int)+1)=(l.length:Int)+1:=zS (by omega) (by omega)
      go_wp2
      have HN:=Lib.hid (new_any wr.drew)
      have hrl:=zB hP.row
      have hrf:=zN hP.row (l.length * 2+1)
      have hRs:(ptrV l ++ nilV ((n - l.length) * 2)).toArray[l.length * 2+1]?=some (.pointer none):=by
        simp only [List.getElem?_toArray]
        rw [List.getElem?_append_right (by rw [zCZ];omega),zCZ]
        unfold nilV
        rw [List.getElem?_replicate,if_pos (by omega)]
      have hrc:=(zE hP.row (l.length * 2+1)).trans hRs
      have HPH:=Lib.hid hP
      go_region_law (first
        | (go_simp;go_at_call 25;refine HN.out.mono ?_;rintro e w1 ⟨rfl,hv1,hs1,hb1⟩;have hP1:=HPH.out.below ((Below.refl _ _).drew.trans hb1);obtain ⟨d0,d1,df0,df1,dlt⟩:=box2 hP1.blk;have drl:=zB hP1.row;have drf:=zN hP1.row (l.length * 2+1);have drc:=(zE hP1.row (l.length * 2+1)).trans hRs;(try go_simp)))
      · have hCs:Chg [w.heap.size] w1 (w1.setCell ⟨w.heap.size,l.length * 2+1,none⟩ (.pointer (some ⟨wr.heap.size,0,none⟩))):=(Chg.refl _ _).setCell (.inl (by simp)) _ _
        have rw2:=zQ (i:=l.length * 2+1) hP1.row (.pointer (some ⟨wr.heap.size,0,none⟩))
        have bG2:=hCs.keep hP1.blk (by simp)
        have hv2:=hv1.chgRow hP1.row (by decide) (by decide) (by decide) hCs
        have hRs0:(ptrV l ++ nilV ((n - l.length) * 2)).toArray[l.length * 2]?=some (.pointer none):=by
          simp only [List.getElem?_toArray]
          rw [List.getElem?_append_right (by rw [zCZ];omega),zCZ]
          unfold nilV
          rw [List.getElem?_replicate,if_pos (by omega)]
        have hsz:l.length * 2+1<(ptrV l ++ nilV ((n - l.length) * 2)).toArray.size:=by
          have:=(Array.getElem?_eq_some_iff.1 hRs).1
          exact this
        have HAN:=Lib.hid (anew_raw (n:=n) (m:=n) (Y:=.pointer none) l.length bG2 rw2 (by rw [Array.getElem?_setIfInBounds,if_pos rfl,if_pos hsz];rfl) (by rw [Array.getElem?_setIfInBounds,if_neg (by omega)];exact hRs0) hlt2 h16 hv2 vt0_ok (fresh_pair (x:=vt0) hlt2 h16 vt0_ok (Nat.zero_le _) rfl (fun e he=>by cases he) (Int.le_refl _)).1)
        go_wp2_with (go_at_call 26;refine HAN.out.mono ?_;rintro e w9 ⟨rfl,b4,a4,w4,hb4,H4,hF4,rfl⟩)
        go_roundw
        case rel =>
          have hbW:Below wr.heap.size wr w1:=(Below.refl _ _).drew.trans hb1
          refine ⟨l ++ [⟨b4,a4,wr.heap.size,[]⟩],by simp;try omega,HPH.out.next hlt2 hB.size hbW (Nat.le_refl _) hv1 hb4 H4 (fun y hy=>by have:=hF4 y hy;simpa using this),?_⟩
          exact ((hB.trans (hbW.mono hB.size)).setCell (p:=⟨w.heap.size,l.length * 2+1,none⟩) (Nat.le_refl _) _ |>.trans (hb4.mono (by simp;have:=hb1.size;have:=hB.size;have:=hbW.size;omega))).setCell (p:=⟨w.heap.size,l.length * 2,none⟩) (Nat.le_refl _) _
        case measure=>simp [intOf];omega
      · have hCs:Chg [w.heap.size] w1 (w1.setCell ⟨w.heap.size,l.length * 2+1,none⟩ (.pointer (some ⟨wr.heap.size,0,none⟩))):=(Chg.refl _ _).setCell (.inl (by simp)) _ _
        have rw2:=zQ (i:=l.length * 2+1) hP1.row (.pointer (some ⟨wr.heap.size,0,none⟩))
        have bG2:=hCs.keep hP1.blk (by simp)
        have hv2:=hv1.chgRow hP1.row (by decide) (by decide) (by decide) hCs
        have hRs0:(ptrV l ++ nilV ((n - l.length) * 2)).toArray[l.length * 2]?=some (.pointer none):=by
          simp only [List.getElem?_toArray]
          rw [List.getElem?_append_right (by rw [zCZ];omega),zCZ]
          unfold nilV
          rw [List.getElem?_replicate,if_pos (by omega)]
        have hsz:l.length * 2+1<(ptrV l ++ nilV ((n - l.length) * 2)).toArray.size:=by
          have:=(Array.getElem?_eq_some_iff.1 hRs).1
          exact this
        have HAN:=Lib.hid (anew_raw (n:=n) (m:=n) (Y:=.pointer none) l.length bG2 rw2 (by rw [Array.getElem?_setIfInBounds,if_pos rfl,if_pos hsz];rfl) (by rw [Array.getElem?_setIfInBounds,if_neg (by omega)];exact hRs0) hlt2 h16 hv2 vt0_ok (fresh_pair (x:=vt0) hlt2 h16 vt0_ok (Nat.zero_le _) rfl (fun e he=>by cases he) (Int.le_refl _)).1)
        go_wp2_with (go_at_call 26;refine HAN.out.mono ?_;rintro e w9 ⟨rfl,b4,a4,w4,hb4,H4,hF4,rfl⟩)
        go_roundw
        case rel =>
          have hbW:Below wr.heap.size wr w1:=(Below.refl _ _).drew.trans hb1
          refine ⟨l ++ [⟨b4,a4,wr.heap.size,[]⟩],by simp;try omega,HPH.out.next hlt2 hB.size hbW (Nat.le_refl _) hv1 hb4 H4 (fun y hy=>by have:=hF4 y hy;simpa using this),?_⟩
          exact ((hB.trans (hbW.mono hB.size)).setCell (p:=⟨w.heap.size,l.length * 2+1,none⟩) (Nat.le_refl _) _ |>.trans (hb4.mono (by simp;have:=hb1.size;have:=hB.size;have:=hbW.size;omega))).setCell (p:=⟨w.heap.size,l.length * 2,none⟩) (Nat.le_refl _) _
        case measure=>simp [intOf];omega
    · have hk1:¬ (l.length:Int)<(n:Int):=by omega
      obtain ⟨hGA,hGL⟩:=hP.whole (by omega)
      have HGA:=Lib.hid hGA
      clear hP
      go_wp2
      go_ret2
      exact ⟨_,_,rfl,HGA.out,hGL,hB⟩
section
variable {w:World} {G:Nat} {L:GL} {g:Gr}
theorem has_any (h:GAt w G L g) (i:Nat) (hi:i<g.ms.length):Calls Tryz.prog 37 #[.pointer (some ⟨G,0,none⟩),.int .i64 ((i:Int)+1)] w fun e w'=>e=.returned (.bool true)∧w'=w:=by
  obtain ⟨c0,c1,f0,f1,hlt⟩:=h.cells
  have h0:(1:Int)≤(i:Int)+1:=by omega
  have h1:(i:Int)+1≤(g.ms.length:Int):=by omega
  clear h
  go_enter Tryz.func37,Tryz.ntmps37
  go_wp2
  go_ret
  exact ⟨rfl,rfl⟩
theorem has_no (h:GAt w G L g) (a:Int) (ha:a<1∨(g.ms.length:Int)<a):Calls Tryz.prog 37 #[.pointer (some ⟨G,0,none⟩),.int .i64 a] w fun e w'=>e=.returned (.bool false)∧w'=w:=by
  obtain ⟨c0,c1,f0,f1,hlt⟩:=h.cells
  by_cases h0:a<1
  · clear h ha
    go_enter Tryz.func37,Tryz.ntmps37
    go_wp2
    go_ret
    exact ⟨zCQ (by simp;try omega),rfl⟩
  · have h1:(g.ms.length:Int)<a:=by omega
    clear h ha
    go_enter Tryz.func37,Tryz.ntmps37
    go_wp2
    go_ret
    exact ⟨zCQ (by simp;try omega),rfl⟩
theorem waiting_any (h:GAt w G L g):Calls Tryz.prog 21 #[.pointer (some ⟨G,0,none⟩)] w fun e w'=>e=.returned (.int .i64 (g.net.length:Nat))∧w'=w:=by
  obtain ⟨c0,c1,f0,f1,hlt⟩:=h.cells
  clear h
  go_enter Tryz.func21,Tryz.ntmps21
  go_wp2
  go_ret
  exact ⟨rfl,rfl⟩
theorem glen_any (h:GAt w G L g):Calls Tryz.prog 22 #[.pointer (some ⟨G,0,none⟩)] w fun e w'=>e=.returned (.int .i64 (g.ms.length:Nat))∧w'=w:=by
  obtain ⟨c0,c1,f0,f1,hlt⟩:=h.cells
  clear h
  go_enter Tryz.func22,Tryz.ntmps22
  go_wp2
  go_ret
  exact ⟨rfl,rfl⟩
theorem grole_any (h:GAt w G L g) (hn:g.ms.length≤16) {i:Nat} {p:Mb × Vt} (hp:g.ms[i]?=some p):Calls Tryz.prog 13 #[.pointer (some ⟨G,0,none⟩),.int .i64 ((i:Int)+1)] w fun e w'=>e=.returned (.int .i64 p.1.role)∧Below w.heap.size w w':=by
  have hi:i<g.ms.length:=(List.getElem?_eq_some_iff.1 hp).1
  obtain ⟨q,hq⟩:=h.slots hi
  have HHA:=Lib.hid (has_any h i hi)
  have HOF:=Lib.hid (of_any h i hi hn)
  obtain ⟨c0,c1,f0,f1,hlt⟩:=h.ptrs hq
  have HRO:=Lib.hid (role_any (h.mem i q p hq hp).1)
  clear h
  go_enter Tryz.func13,Tryz.ntmps13
  go_wp2_with (first
    | (go_at_call 37;refine HHA.out.mono ?_;rintro e wx ⟨rfl,hwx⟩;subst hwx)
    | (go_at_call 29;refine HOF.out.mono ?_;rintro e wx ⟨rfl,hwx⟩;subst hwx)
    | (go_at_call 38;refine HRO.out.mono ?_;rintro e w1 ⟨rfl,hb1⟩))
  go_ret
  exact ⟨rfl,hb1⟩
theorem gballot_any (h:GAt w G L g) (hn:g.ms.length≤16) {i:Nat} {p:Mb × Vt} (hp:g.ms[i]?=some p):Calls Tryz.prog 14 #[.pointer (some ⟨G,0,none⟩),.int .i64 ((i:Int)+1)] w fun e w'=>e=.returned (zV p.1.term p.1.vote)∧Below w.heap.size w w':=by
  have hi:i<g.ms.length:=(List.getElem?_eq_some_iff.1 hp).1
  obtain ⟨q,hq⟩:=h.slots hi
  have hal:=zC w (.cells #[.int .i64 0,.int .i64 0] 34)
  have gB:=zG w (.cells #[.int .i64 0,.int .i64 0] 34)
  have h1:=h.below hal
  have HHA:=Lib.hid (has_any h1 i hi)
  have HOF:=Lib.hid (of_any h1 i hi hn)
  obtain ⟨c0,c1,f0,f1,hlt⟩:=h1.ptrs hq
  have HBA:=Lib.hid (ballot_any (h1.mem i q p hq hp).1)
  obtain ⟨b0,b1,bf0,bf1,blt⟩:=box2 gB
  clear h h1
  go_enter Tryz.func14,Tryz.ntmps14
  go_wp2_with (first
    | (go_at_call 37;refine HHA.out.mono ?_;rintro e wx ⟨rfl,hwx⟩;subst hwx)
    | (go_at_call 29;refine HOF.out.mono ?_;rintro e wx ⟨rfl,hwx⟩;subst hwx)
    | (go_at_call 39;refine HBA.out.mono ?_;rintro e w2 ⟨rfl,hb2⟩;have g2:=zA hb2 gB;obtain ⟨d0,d1,df0,df1,dlt⟩:=box2 g2))
  obtain ⟨k0,k1,_⟩:=box2 (zAA g2 (.int .i64 p.1.term) (.int .i64 p.1.vote))
  refine bodyPost_ret (v:=zV p.1.term p.1.vote) (by simp [results,Tryz.results14,go_sem,k0,k1,zV]) rfl ?_
  exact ⟨rfl,zP (hal.trans (hb2.mono hal.size)) (Nat.le_refl _) _ _⟩
theorem glog_any (h:GAt w G L g) (hn:g.ms.length≤16) {i:Nat} {p:Mb × Vt} (hp:g.ms[i]?=some p) (hl:p.1.log.length≤64):Calls Tryz.prog 15 #[.pointer (some ⟨G,0,none⟩),.int .i64 ((i:Int)+1)] w (zAZ 42 7 p.1.log.length (ensV p.1.log) w):=by
  have hi:i<g.ms.length:=(List.getElem?_eq_some_iff.1 hp).1
  obtain ⟨q,hq⟩:=h.slots hi
  have HHA:=Lib.hid (has_any h i hi)
  have HOF:=Lib.hid (of_any h i hi hn)
  obtain ⟨c0,c1,f0,f1,hlt⟩:=h.ptrs hq
  have HLO:=Lib.hid (mlog_any (h.mem i q p hq hp).1 hl)
  have hfl:∀ (A:Option Addr) (n c:Nat) (W:World),(Instr.field 55 (logV 0 0 A n c) 2).run Tryz.prog W=.ok (.slice A n c) W:=fun A n c W=>by kernel_rfl
  clear h
  go_enter Tryz.func15,Tryz.ntmps15
  go_wp2_with (first
    | (go_at_call 37;refine HHA.out.mono ?_;rintro e wx ⟨rfl,hwx⟩;subst hwx)
    | (go_at_call 29;refine HOF.out.mono ?_;rintro e wx ⟨rfl,hwx⟩;subst hwx)
    | (go_at_call 40;refine HLO.out.mono ?_;rintro e w1 ⟨A1,cc1,rfl,own1,hb1⟩))
  go_ret
  exact ⟨A1,cc1,rfl,own1,hb1⟩
end
theorem World.ownsRow_take {w:World} {base:Nat} {A:Option Addr} {cap k:Nat} {es:List En} (h:w.ownsRow base 42 7 (.slice A es.length cap) es.length (ensV es)) (hk:k≤es.length) (hc:es.length≤cap):w.ownsRow base 42 7 (.slice A k cap) k (ensV (es.take k)):=by
  obtain ⟨h1,h2⟩:=h
  refine ⟨by rw [zAQ,List.length_take,Nat.min_eq_left hk],?_⟩
  rcases h2 with ⟨hv,h0⟩ | ⟨g,c,cur,hv,hg,hh,hnc,hcm,hsz,ht⟩
  · injection hv with e1 e2 e3
    exact .inl ⟨by rw [e1,e3,show k=0 by omega],by omega⟩
  · injection hv with e1 e2 e3
    subst e3
    refine .inr ⟨g,cap,cur,by rw [e1],hg,hh,by omega,hcm,hsz,?_⟩
    rw [← zCR,← ht,List.take_take,Nat.min_eq_left (Nat.mul_le_mul_right 7 hk)]
def zBG (m:Mb):List En:=m.log.take m.settled.toNat
set_option maxRecDepth 100000 in
set_option maxHeartbeats 6400000 in
theorem gsettled_any {w:World} {G:Nat} {L:GL} {g:Gr} (h:GAt w G L g) (hn:g.ms.length≤16) {i:Nat} {p:Mb × Vt} (hp:g.ms[i]?=some p) (hl:p.1.log.length≤64) (hs0:0≤p.1.settled) (hs64:p.1.settled≤64):Calls Tryz.prog 17 #[.pointer (some ⟨G,0,none⟩),.int .i64 ((i:Int)+1)] w (zAZ 42 7 (zBG p.1).length (ensV (zBG p.1)) w):=by
  have hi:i<g.ms.length:=(List.getElem?_eq_some_iff.1 hp).1
  obtain ⟨q,hq⟩:=h.slots hi
  have HLG:=Lib.hid (glog_any h hn hp hl)
  have HG:=Lib.hid h
  clear h
  by_cases h0:p.1.log.length=0
  · have e1:zBG p.1=[]:=by unfold zBG;rw [List.eq_nil_of_length_eq_zero h0,List.take_nil]
    rw [e1]
    rw [h0] at HLG
    go_enter Tryz.func17,Tryz.ntmps17
    go_wp2_with (go_at_call 15;refine HLG.out.mono ?_;rintro e w1 ⟨A1,cc1,rfl,own1,hb1⟩)
    go_ret
    exact ⟨none,0,rfl,World.ownsRow_nil _ _ _ _,hb1⟩
  · obtain ⟨N,hN⟩:∃ N:Nat,min (p.1.log.length:Int) p.1.settled=(N:Int):=⟨(min (p.1.log.length:Int) p.1.settled).toNat,by omega⟩
    have hlen:(zBG p.1).length=N:=by unfold zBG;rw [List.length_take];omega
    have hens:zBG p.1=p.1.log.take N:=by
      unfold zBG
      by_cases hc:p.1.settled.toNat≤p.1.log.length
      · rw [show p.1.settled.toNat=N by omega]
      · rw [List.take_of_length_le (by omega),List.take_of_length_le (by omega)]
    rw [hlen,hens]
    have hN1:N≤p.1.log.length:=by omega
    have hl0:((p.1.log.length:Int) == 0)=false:=by rw [beq_eq_false_iff_ne];omega
    have hn0:(p.1.log.length == 0)=false:=by rw [beq_eq_false_iff_ne];omega
    go_enter Tryz.func17,Tryz.ntmps17
    go_upto_region 4 with (go_at_call 15;refine HLG.out.mono ?_;rintro e w1 ⟨A1,cc1,rfl,own1,hb1⟩)
    have h1:=HG.out.below hb1
    have HOF:=Lib.hid (of_any h1 i hi hn)
    obtain ⟨c0,c1,f0,f1,hlt⟩:=h1.ptrs hq
    have HSE:=Lib.hid (settled_any (h1.mem i q p hq hp).1)
    have hcap:p.1.log.length≤cc1:=(LogIn.of_own own1).cap
    have hsl:∀ W,(Instr.slice 37 (.slice A1 p.1.log.length cc1) none (some (.int .i64 (min (p.1.log.length:Int) p.1.settled))) none).run Tryz.prog W=.ok (.slice A1 N cc1) W:=fun W=>by
      rw [hN]
      exact zCN (P:=Tryz.prog) zCX A1 p.1.log.length cc1 N (by omega) W
    clear h1
    go_wp2_with (first
      | (go_at_call 29;refine HOF.out.mono ?_;rintro e wx ⟨rfl,hwx⟩;subst hwx)
      | (go_at_call 41;refine HSE.out.mono ?_;rintro e w2 ⟨rfl,hb2⟩))
    go_ret
    exact ⟨A1,cc1,rfl,World.ownsRow_take (zD own1 hb2) hN1 hcap,hb1.trans (hb2.mono hb1.size)⟩
theorem exNew:newOk 1 1 0 0 0 0 []=true:=by decide
theorem exOk:MbOk (zBY 1 1 0 0 []):=(newMb_ok exNew).2
theorem exTime : (zBY 1 1 0 0 []).timeout = (⟨1, 1, 1, [(1, 0, 0, 0, 0, 0, 0)], 2, 1, [1], [(1, 1)]⟩, []) := by
  have h1:(zBY 1 1 0 0 []).stand=⟨1,1,1,[],1,0,[1],[(0,0)]⟩:=rfl
  have h2:(zBY 1 1 0 0 []).stand.won=true:=by rw [h1];rfl
  have h3 : (zBY 1 1 0 0 []).stand.lead = ⟨1, 1, 1, [(1, 0, 0, 0, 0, 0, 0)], 2, 1, [1], [(1, 1)]⟩ := by
    rw [h1]
    have e1:(⟨1,1,1,[],1,0,[1],[(0,0)]⟩:Mb).clear=⟨1,1,1,[],2,0,[1],[(0,1)]⟩:=by
      unfold Mb.clear
      rw [show (lastF 0 0 ([]:List En))=(0,0) by rw [lastF_may (by decide)];rfl]
      rfl
    have e2:(⟨1,1,1,[],2,0,[1],[(0,1)]⟩:Mb).put (0,0,0,0,0,0)=⟨1,1,1,[(1,0,0,0,0,0,0)],2,0,[1],[(0,1)]⟩:=rfl
    have hm:mayL 0 0 [((1:Int),(0:Int),(0:Int),(0:Int),(0:Int),(0:Int),(0:Int))]=true:=by decide
    have e3:(⟨1,1,1,[(1,0,0,0,0,0,0)],2,0,[1],[(0,1)]⟩:Mb).mark=⟨1,1,1,[(1,0,0,0,0,0,0)],2,0,[1],[(1,1)]⟩:=by
      unfold Mb.mark Mb.prAt
      rw [lastF_may hm]
      rfl
    have e4:(⟨1,1,1,[(1,0,0,0,0,0,0)],2,0,[1],[(1,1)]⟩:Mb).settle=⟨1,1,1,[(1,0,0,0,0,0,0)],2,1,[1],[(1,1)]⟩:=by
      have hc:zCW 0 0 [((1:Int),(0:Int),(0:Int),(0:Int),(0:Int),(0:Int),(0:Int))] [1] 1 0=1:=by
        unfold zCW
        rw [zBQ hm]
        have hmo:mostL [1]=1:=by
          unfold mostL majN
          simp [sortI]
        rw [hmo]
        decide
      unfold Mb.settle
      simp only [List.map_cons,List.map_nil]
      rw [hc]
    unfold Mb.lead
    rw [e1,e2,e3,e4]
  unfold Mb.timeout
  rw [if_neg (by decide),if_pos h2,h3]
  rfl
theorem saveB_le {h:St} {t v:Int} {l:List En} (ok:SaveOk h t v l):(saveB h t v l).length≤166+(l.length - zAC h.2.2 l) * 83:=by
  obtain ⟨c1,c2,c3⟩:=zDB h.2.2 l
  have h64:=(zAB ok.held.2).2.2.2.2.2.1
  have e1:(if h.1=t∧h.2.1=v then ([]:List UInt8) else recB 1 [t,v]).length≤83:=by
    split
    · exact Nat.zero_le _
    · exact (zCP (zCF ok.vote)).2
  have e2:(if zAC h.2.2 l<h.2.2.length then recB 3 [((zAC h.2.2 l:Nat):Int)] else ([]:List UInt8)).length≤83:=by
    split
    · exact (zCP (left_rec (by omega))).2
    · exact Nat.zero_le _
  have e3:=entRecs_le (l.drop (zAC h.2.2 l)) (zAC h.2.2 l) fun j hj=>by
    rw [List.length_drop] at hj
    have hr:=ent_rec ok.log (i:=zAC h.2.2 l+j) (by omega) (ok.fair _ (List.getElem_mem _))
    rw [List.getElem_drop]
    exact hr
  rw [List.length_drop] at e3
  unfold saveB
  rw [List.length_append,List.length_append]
  omega
theorem saves_fit {m:Mb} {x:Vt} (hm:MbOk m) (hx:VtOk x) (hf:∀ e ∈ m.log,zBO e) (hl:x.1.length+166+(m.log.length - zAC x.2.2.2.2 m.log) * 83≤65536):saves m x=0:=by
  have ok:SaveOk x.2.2 m.term m.vote m.log:=⟨hx.held,hm.ballot,hm.log,hf⟩
  have hb:=saveB_le ok
  unfold saves saveE
  rw [if_pos ⟨hm.ballot,hm.log,rfl,hf⟩,if_neg (by rw [List.length_append];omega)]
abbrev exM:Mb:=⟨1,1,1,[(1,0,0,0,0,0,0)],2,1,[1],[(1,1)]⟩
theorem exMOk:MbOk exM:=by
  have h:=exOk.timeout
  rw [exTime] at h
  exact h
theorem exSave:saves exM vt0=0:=saves_fit exMOk vt0_ok (fun e he=>by
  simp only [List.mem_singleton] at he
  subst he
  unfold zBO Fair
  intro n hn
  simp at hn
  subst hn
  decide) (by simp [vt0];try omega)
theorem exGr:(newGr 1).does 0 1 0 0=(⟨[(exM,syncV (saved exM vt0))],[]⟩,0):=by
  have e0:newGr 1=⟨[(zBY 1 1 0 0 [],vt0)],[]⟩:=rfl
  rw [e0]
  unfold Gr.does
  rw [if_neg (by decide),if_pos rfl]
  have e1:(⟨[(zBY 1 1 0 0 [],vt0)],[]⟩:Gr).at_ 1=(zBY 1 1 0 0 [],vt0):=rfl
  rw [e1,exTime]
  unfold Gr.acts
  rw [e1,if_pos exSave]
  rfl
theorem exGrOk:GrOk (newGr 1):=newGr_ok (by decide) (by decide)
set_option maxRecDepth 100000 in
set_option maxHeartbeats 6400000 in
theorem groupAwake_any (w:World):Calls Tryz.prog 10 #[] w fun e w'=>e=.returned (.bool true)∧Below w.heap.size w w':=by
  have HN:Hid (Calls Tryz.prog 11 #[.int .i64 1] w (RetGr 1 w)):=gnew_any 1 w (by decide) (by decide)
  have HD:Hid (∀ W G L,GAt W G L (newGr 1) → Calls Tryz.prog 12 #[.pointer (some ⟨G,0,none⟩),itV 0 1 0 0] W (RetE (⟨[(exM,syncV (saved exM vt0))],[]⟩,0) G L W)):=fun W G L h=>by
    have:=do_any exGrOk h 0 1 0 0 (Nat.zero_le _)
    rwa [exGr] at this
  generalize hgx:(⟨[(exM,syncV (saved exM vt0))],[]⟩:Gr)=gx at HD
  have hx0:gx.ms[0]?=some (exM,syncV (saved exM vt0)):=by subst hgx;rfl
  have hx1:gx.ms.length=1:=by subst hgx;rfl
  have HRO:Hid (∀ W G L,GAt W G L gx → Calls Tryz.prog 13 #[.pointer (some ⟨G,0,none⟩),.int .i64 1] W fun e w'=>e=.returned (.int .i64 2)∧Below W.heap.size W w'):=fun W G L h=>by
    have:=grole_any h (by rw [hx1];decide) hx0
    simpa using this
  have HBA:Hid (∀ W G L,GAt W G L gx → Calls Tryz.prog 14 #[.pointer (some ⟨G,0,none⟩),.int .i64 1] W fun e w'=>e=.returned (zV 1 1)∧Below W.heap.size W w'):=fun W G L h=>by
    have:=gballot_any h (by rw [hx1];decide) hx0
    simpa using this
  have HLO:Hid (∀ W G L,GAt W G L gx → Calls Tryz.prog 15 #[.pointer (some ⟨G,0,none⟩),.int .i64 1] W (zAZ 42 7 1 (ensV exM.log) W)):=fun W G L h=>by
    have:=glog_any h (by rw [hx1];decide) hx0 (by decide)
    simpa using this
  have HSE:Hid (∀ W G L,GAt W G L gx → Calls Tryz.prog 17 #[.pointer (some ⟨G,0,none⟩),.int .i64 1] W (zAZ 42 7 1 (ensV (zBG exM)) W)):=fun W G L h=>by
    have:=gsettled_any h (by rw [hx1];decide) hx0 (by decide) (by decide) (by decide)
    rw [show (zBG exM).length=1 from rfl] at this
    simpa using this
  have HLE:Hid (∀ W G L,GAt W G L gx → Calls Tryz.prog 22 #[.pointer (some ⟨G,0,none⟩)] W fun e w'=>e=.returned (.int .i64 1)∧w'=W):=fun W G L h=>by
    have:=glen_any h
    rw [hx1] at this
    exact this
  generalize ensV exM.log=xs1 at HLO
  generalize ensV (zBG exM)=xs2 at HSE
  have hfb:∀ (t v:Int) (W:World),(Instr.field 34 (zV t v) 0).run Tryz.prog W=.ok (.int .i64 t) W:=fun t v W=>by kernel_rfl
  clear hgx hx0 hx1
  go_enter Tryz.func10,Tryz.ntmps10
  go_wp2_with (first
    | (go_at_call 11;refine HN.out.mono ?_;rintro e w1 ⟨G,L,rfl,h1,hf1,hb1⟩;have HD1:=Lib.hid (HD.out _ _ _ h1))
    | (go_at_call 12;refine HD1.out.mono ?_;rintro e w2 ⟨rfl,L2,h2,S2⟩;have hb2:Below w.heap.size w w2:=hb1.trans (S2.chg.to_below hf1 hb1.size);have HR2:=Lib.hid (HRO.out _ _ _ h2))
    | (go_at_call 13;refine HR2.out.mono ?_;rintro e w3 ⟨rfl,hb3⟩;have h3:=h2.below hb3;have hw3:=hb2.trans (hb3.mono hb2.size);have HS3:=Lib.hid (HSE.out _ _ _ h3))
    | (go_at_call 17;refine HS3.out.mono ?_;rintro e w4 ⟨A4,c4,rfl,own4,hb4⟩;have h4:=h3.below hb4;have hw4:=hw3.trans (hb4.mono hw3.size);have HL4:=Lib.hid (HLO.out _ _ _ h4))
    | (go_at_call 15;refine HL4.out.mono ?_;rintro e w5 ⟨A5,c5,rfl,own5,hb5⟩;have h5:=h4.below hb5;have hw5:=hw4.trans (hb5.mono hw4.size);have HB5:=Lib.hid (HBA.out _ _ _ h5))
    | (go_at_call 14;refine HB5.out.mono ?_;rintro e w6 ⟨rfl,hb6⟩;have h6:=h5.below hb6;have hw6:=hw5.trans (hb6.mono hw5.size);have HN6:=Lib.hid (HLE.out _ _ _ h6))
    | (go_at_call 22;refine HN6.out.mono ?_;rintro e wx ⟨rfl,hwx⟩;subst hwx))
  go_ret
  exact ⟨rfl,hw6⟩
theorem rgdo_any {Q:Nat → Prop} {w:World} {G:Nat} {L:RL} {g:Gr} (hgo:GrOk g) (h:RGAt Q w G L g) (hQ:∀ x,w.heap.size≤x → Q x) (k a b c:Int) (hnet:g.net.length≤1000000) :
    Calls Tryz.prog 20 #[.pointer (some ⟨G,0,none⟩),itV k a b c] w (RetRG Q (g.does k a b c).1 G L (.int .i64 (g.does k a b c).2) w):=by
  by_cases ht:g.there k a=0
  rotate_left 1
  · have e:g.does k a b c=(g,g.there k a):=if_pos ht
    rw [e]
    exact rgdo_not h hgo.n16 hnet k a b c ht
  have hk:=GrOk.there_kind ht
  have mem:∀ (hk:k=0∨k=1∨k=2∨k=6),∃ (i:Nat) (p:Mb × Vt),a=(i:Int)+1∧g.ms[i]?=some p:=fun hk=>by
    obtain ⟨i,e,hi⟩:=there_in ht hk
    exact ⟨i,_,e,List.getElem?_eq_getElem hi⟩
  have msg:∀ (hk:k=3∨k=4∨k=5∨k=7),∃ (j:Nat) (x:Ms),a=(j:Int)∧g.net[j]?=some x:=fun hk=>by
    obtain ⟨h1,h2⟩:=GrOk.there_msg ht hk
    exact ⟨a.toNat,_,by omega,List.getElem?_eq_getElem h2⟩
  have kc:k=0∨k=1∨k=2∨k=3∨k=4∨k=5∨k=6∨k=7:=by omega
  unfold Gr.does
  rw [if_neg (by simp [ht])]
  rcases kc with rfl | rfl | rfl | rfl | rfl | rfl | rfl | rfl
  · obtain ⟨i,p,rfl,hp⟩:=mem (by omega)
    rw [if_pos rfl,at_idx hp]
    exact rgdo_timeout h hgo i hp hQ b c hnet
  · obtain ⟨i,p,rfl,hp⟩:=mem (by omega)
    rw [if_neg (by decide),if_pos rfl,at_idx hp]
    exact rgdo_beat h hgo i hp hQ b c hnet
  · obtain ⟨i,p,rfl,hp⟩:=mem (by omega)
    rw [if_neg (by decide),if_neg (by decide),if_pos rfl]
    exact rgdo_propose h hgo i hp hQ b c hnet
  · obtain ⟨j,x,rfl,hx⟩:=msg (by omega)
    rw [if_neg (by decide),if_neg (by decide),if_neg (by decide),if_pos rfl,Int.toNat_natCast,msg_idx hx]
    exact rgdo_deliver h hgo j hx hQ b c hnet
  · obtain ⟨j,x,rfl,hx⟩:=msg (by omega)
    rw [if_neg (by decide),if_neg (by decide),if_neg (by decide),if_neg (by decide),if_pos rfl,Int.toNat_natCast]
    exact rgdo_lose h j hx hQ b c hnet
  · obtain ⟨j,x,rfl,hx⟩:=msg (by omega)
    rw [if_neg (by decide),if_neg (by decide),if_neg (by decide),if_neg (by decide),if_neg (by decide),if_pos rfl,Int.toNat_natCast,msg_idx hx]
    exact rgdo_double h j hx hQ b c hnet
  · obtain ⟨i,p,rfl,hp⟩:=mem (by omega)
    rw [if_neg (by decide),if_neg (by decide),if_neg (by decide),if_neg (by decide),if_neg (by decide),if_neg (by decide),if_pos rfl]
    exact rgdo_crash h hgo i hp hQ b c
  · obtain ⟨j,x,rfl,hx⟩:=msg (by omega)
    rw [if_neg (by decide),if_neg (by decide),if_neg (by decide),if_neg (by decide),if_neg (by decide),if_neg (by decide),if_neg (by decide),Int.toNat_natCast,msg_idx hx]
    exact rgdo_torn h hgo j hx hQ b c hnet
set_option maxHeartbeats 1600000 in
theorem rgnew_no (many:Int) (w:World) (h:many<1∨16<many):Calls Tryz.prog 19 #[.int .i64 many] w fun e w'=>e=.returned (.tuple #[.pointer none,.int .i64 1])∧Below w.heap.size w w':=by
  by_cases h1:many<1
  · clear h
    go_enter Tryz.func19,Tryz.ntmps19
    go_wp2
    go_ret2
    exact ⟨rfl,zK _⟩
  · have h2:16<many:=by omega
    clear h
    go_enter Tryz.func19,Tryz.ntmps19
    go_wp2
    go_ret2
    exact ⟨rfl,zK _⟩
set_option maxRecDepth 100000 in
set_option maxHeartbeats 6400000 in
theorem elemPM:Elem Tryz.prog 48 53 (.pointer none) 1 8:=⟨Tryz.underlying48,by kernel_rfl,rfl,by omega⟩
theorem elemPV:Elem Tryz.prog 49 88 (.pointer none) 1 8:=⟨Tryz.underlying49,by kernel_rfl,rfl,by omega⟩
structure RRows (B:Nat) (w:World) (G:Nat) (A:Option Addr) (c:Nat) (A':Option Addr) (c':Nat) (xs ys:List Value):Prop where
  blk:w.heap[G]?=some (.cells #[.slice A xs.length c,.slice A' ys.length c',.slice none 0 0] 52)
  mrow:w.ownsRow B 53 1 (.slice A xs.length c) xs.length xs
  vrow:w.ownsRow B 88 1 (.slice A' ys.length c') ys.length ys
structure RMems (B:Nat) (w:World) (n:Nat) (l:List RM):Prop where
  mem:∀ (i:Nat) (r:RM),l[i]?=some r → RMAt w r.b r.a (zBY ((i:Int)+1) n 0 0 [])∧RvAt w r.v (fun _=>False) vt0
  apart:∀ (i j:Nat) (r s:RM),i≠j → l[i]?=some r → l[j]?=some s → ∀ x ∈ rft r,x ∉ rft s
  base:∀ r ∈ l,∀ x ∈ rft r,B≤x
theorem RRows.below {B:Nat} {w w':World} {G:Nat} {A:Option Addr} {c:Nat} {A':Option Addr} {c':Nat} {xs ys:List Value} (h:RRows B w G A c A' c' xs ys) (hb:Below w.heap.size w w'):RRows B w' G A c A' c' xs ys:=⟨zA hb h.blk,zD h.mrow hb,zD h.vrow hb⟩
theorem RRows.apart {B:Nat} {w:World} {G:Nat} {A:Option Addr} {c:Nat} {A':Option Addr} {c':Nat} {xs ys:List Value} (h:RRows B w G A c A' c' xs ys):G ∉ zU A∧G ∉ zU A'∧∀ x ∈ zU A,x ∉ zU A':=by
  refine ⟨fun hc => ?_,fun hc => ?_,fun x hx hc => ?_⟩
  · obtain ⟨_,hk⟩:=zBE h.mrow _ hc;exact zCA hk h.blk (by decide) rfl
  · obtain ⟨_,hk⟩:=zBE h.vrow _ hc;exact zCA hk h.blk (by decide) rfl
  · obtain ⟨_,hk⟩:=zBE h.mrow _ hx
    obtain ⟨_,hj⟩:=zBE h.vrow _ hc
    exact zCA hk hj (by decide) rfl
theorem RRows.pushM {B:Nat} {w w3:World} {G:Nat} {A A3:Option Addr} {c c3:Nat} {A':Option Addr} {c':Nat} {xs ys:List Value} {v:Value} (h:RRows B w G A c A' c' xs ys) (hg:w.grownBy w3 (Value.slice A xs.length c).ownBlock) (own:w3.ownsRow B 53 1 (.slice A3 (xs.length+1) c3) (xs.length+1) (xs ++ [v])) :
    RRows B (w3.setCell ⟨G,0,none⟩ (.slice A3 (xs.length+1) c3)) G A3 c3 A' c' (xs ++ [v]) ys∧Chg (G :: zU A) w (w3.setCell ⟨G,0,none⟩ (.slice A3 (xs.length+1) c3)):=by
  obtain ⟨a1,a2,a3⟩:=h.apart
  have hC:Chg (zU A) w w3:=(Chg.refl _ _).grown hg fun b hb=>.inl (zAT hb)
  have hG3:=hC.keep h.blk a1
  have hC2:Chg [G] w3 (w3.setCell ⟨G,0,none⟩ (.slice A3 (xs.length+1) c3)):=(Chg.refl _ _).setCell (.inl (by simp)) _ _
  have e1:(xs ++ [v]).length=xs.length+1:=by simp
  refine ⟨⟨?_,?_,?_⟩,(hC.mono fun x hx=>.inl (List.mem_cons_of_mem _ hx)).setCell (.inl (by simp)) _ _⟩
  · rw [e1];exact zQ (i:=0) hG3 _
  · rw [e1]
    exact zAL own hC2 fun x hx hc=>by
      simp only [List.mem_singleton] at hc
      obtain ⟨_,hk⟩:=zBE own x hx
      rw [hc] at hk
      exact zCA hk hG3 (by decide) rfl
  · refine zAL (zAL h.vrow hC fun x hx hc=>a3 x hc hx) hC2 fun x hx hc => ?_
    simp only [List.mem_singleton] at hc
    rw [hc] at hx
    exact a2 hx
theorem RRows.pushV {B:Nat} {w w3:World} {G:Nat} {A A3:Option Addr} {c c3:Nat} {A':Option Addr} {c':Nat} {xs ys:List Value} {v:Value} (h:RRows B w G A c A' c' xs ys) (hg:w.grownBy w3 (Value.slice A' ys.length c').ownBlock) (own:w3.ownsRow B 88 1 (.slice A3 (ys.length+1) c3) (ys.length+1) (ys ++ [v])) :
    RRows B (w3.setCell ⟨G,1,none⟩ (.slice A3 (ys.length+1) c3)) G A c A3 c3 xs (ys ++ [v])∧Chg (G :: zU A') w (w3.setCell ⟨G,1,none⟩ (.slice A3 (ys.length+1) c3)):=by
  obtain ⟨a1,a2,a3⟩:=h.apart
  have hC:Chg (zU A') w w3:=(Chg.refl _ _).grown hg fun b hb=>.inl (zAT hb)
  have hG3:=hC.keep h.blk a2
  have hC2:Chg [G] w3 (w3.setCell ⟨G,1,none⟩ (.slice A3 (ys.length+1) c3)):=(Chg.refl _ _).setCell (.inl (by simp)) _ _
  have e1:(ys ++ [v]).length=ys.length+1:=by simp
  refine ⟨⟨?_,?_,?_⟩,(hC.mono fun x hx=>.inl (List.mem_cons_of_mem _ hx)).setCell (.inl (by simp)) _ _⟩
  · rw [e1];exact zQ (i:=1) hG3 _
  · refine zAL (zAL h.mrow hC fun x hx hc=>a3 x hx hc) hC2 fun x hx hc => ?_
    simp only [List.mem_singleton] at hc
    rw [hc] at hx
    exact a1 hx
  · rw [e1]
    exact zAL own hC2 fun x hx hc=>by
      simp only [List.mem_singleton] at hc
      obtain ⟨_,hk⟩:=zBE own x hx
      rw [hc] at hk
      exact zCA hk hG3 (by decide) rfl
theorem foot_kindR {w:World} {b:Nat} {a:RA} {m:Mb} (h:RMAt w b a m) {x:Nat} (hx:x ∈ rfoot b a):∃ cs t,w.heap[x]?=some (.cells cs t)∧(t=58∨t=4∨t=3):=by
  simp only [rfoot,List.mem_cons,List.not_mem_nil,or_false] at hx
  rcases hx with rfl | rfl | rfl | rfl
  · exact ⟨_,_,h.blk,.inl rfl⟩
  · exact ⟨_,_,h.votes,.inr (.inl rfl)⟩
  · exact ⟨_,_,h.mat,.inr (.inr rfl)⟩
  · exact ⟨_,_,h.nxt,.inr (.inr rfl)⟩
theorem RMems.kind {B:Nat} {w:World} {n:Nat} {l:List RM} (h:RMems B w n l) {r:RM} (hr:r ∈ l) {x:Nat} (hx:x ∈ rft r):∃ cs t,w.heap[x]?=some (.cells cs t)∧(t=93∨t=58∨t=4∨t=3):=by
  obtain ⟨i,hi⟩:=List.getElem?_of_mem hr
  obtain ⟨h1,h2⟩:=h.mem i r hi
  rcases zCU hx with rfl | hx
  · obtain ⟨_,hc⟩:=h2.blkR;exact ⟨_,_,hc,.inl rfl⟩
  · obtain ⟨cs,t,q1,q2⟩:=foot_kindR h1 hx
    exact ⟨cs,t,q1,.inr q2⟩
theorem RMems.lt {B:Nat} {w:World} {n:Nat} {l:List RM} (h:RMems B w n l) {r:RM} (hr:r ∈ l) {x:Nat} (hx:x ∈ rft r):x<w.heap.size:=by
  obtain ⟨_,_,hc,_⟩:=h.kind hr hx
  exact zB hc
theorem RMems.chg {B:Nat} {w w':World} {n:Nat} {l:List RM} {S:List Nat} (h:RMems B w n l) (hC:Chg S w w') (hS:∀ x ∈ S,x<w.heap.size → ∃ cs t,w.heap[x]?=some (.cells cs t)∧t≠93∧t≠58∧t≠4∧t≠3):RMems B w' n l:=by
  have hno:∀ r ∈ l,∀ x ∈ rft r,x ∉ S:=fun r hr x hx hc=>by
    obtain ⟨cs,t,q1,q2⟩:=h.kind hr hx
    obtain ⟨ds,u,z1,z2,z3,z4,z5⟩:=hS x hc (h.lt hr hx)
    rw [q1] at z1
    injection z1 with z1
    injection z1 with _ z1
    subst z1
    rcases q2 with q | q | q | q
    · exact z2 q
    · exact z3 q
    · exact z4 q
    · exact z5 q
  refine ⟨fun i r hr => ?_,h.apart,h.base⟩
  obtain ⟨h1,h2⟩:=h.mem i r hr
  have hm:=List.mem_of_getElem? hr
  exact ⟨h1.chg hC (fun x hx=>hno r hm x (zCV hx)) (fun hn=>(hn rfl).elim),h2.chgO hC (hno r hm _ (rft_v r)) fun y _ hy=>hy.elim⟩
theorem RMems.below {B:Nat} {w w':World} {n:Nat} {l:List RM} (h:RMems B w n l) (hb:Below w.heap.size w w'):RMems B w' n l:=h.chg (S:=[]) (Chg.of_below hb) fun x hx=>by cases hx
theorem RMems.push {B:Nat} {w:World} {n:Nat} {l:List RM} (h:RMems B w n l) {r:RM} (h1:RMAt w r.b r.a (zBY ((l.length:Int)+1) n 0 0 [])) (h2:RvAt w r.v (fun _=>False) vt0) (hB:∀ x ∈ rft r,B≤x) (hn:∀ s ∈ l,∀ x ∈ rft s,x ∉ rft r):RMems B w n (l ++ [r]):=by
  have get:∀ {i:Nat} {s:RM},(l ++ [r])[i]?=some s → (i<l.length∧l[i]?=some s)∨(i=l.length∧s=r):=fun {i s} hs=>by
    by_cases q:i<l.length
    · rw [List.getElem?_append_left q] at hs
      exact .inl ⟨q,hs⟩
    · rw [List.getElem?_append_right (by omega)] at hs
      have:=(List.getElem?_eq_some_iff.1 hs).1
      simp only [List.length_singleton] at this
      have e:i=l.length:=by omega
      subst e
      rw [Nat.sub_self] at hs
      simp at hs
      exact .inr ⟨rfl,hs.symm⟩
  refine ⟨fun i s hs => ?_,fun i j s t hij hs ht x hx hc => ?_,fun s hs => ?_⟩
  · rcases get hs with ⟨_,q⟩ | ⟨rfl,rfl⟩
    · exact h.mem i s q
    · exact ⟨h1,h2⟩
  · rcases get hs with ⟨_,q⟩ | ⟨rfl,rfl⟩ <;> rcases get ht with ⟨_,p⟩ | ⟨rfl,rfl⟩
    · exact h.apart i j s t hij q p x hx hc
    · exact hn s (List.mem_of_getElem? q) x hx hc
    · exact hn t (List.mem_of_getElem? p) x hc hx
    · exact hij rfl
  · rcases List.mem_append.1 hs with q | q
    · exact h.base s q
    · rw [List.mem_singleton] at q;subst q;exact hB
theorem RRows.whole {B:Nat} {w:World} {G:Nat} {A:Option Addr} {c:Nat} {A':Option Addr} {c' n:Nat} {l:List RM} (h:RRows B w G A c A' c' (ptrM l) (ptrR l)) (m:RMems B w n l) (hl:l.length=n) (hn:1≤n) (hB:B≤G) {Q:Nat → Prop} (hQ:∀ x,B≤x → Q x):∃ L,RGAt Q w G L (newGr n)∧∀ x ∈ rall G L,B≤x:=by
  have e1:(ptrM l).length=n:=by simp [ptrM,hl]
  have e2:(ptrR l).length=n:=by simp [ptrR,hl]
  have hms:(newGr n).ms.length=n:=by simp [newGr]
  have hb:=h.blk
  have hm:=h.mrow
  have hv:=h.vrow
  rw [e1] at hm
  rw [e2] at hv
  rw [e1,e2] at hb
  obtain ⟨mo,rfl⟩:=own_some hm (by omega)
  obtain ⟨vo,rfl⟩:=own_some hv (by omega)
  have bm:=zAU hm mo (by simp [zU])
  have bv:=zAU hv vo (by simp [zU])
  have hall:∀ x ∈ rall G ⟨mo,c,vo,c',none,0,[],l⟩,B≤x:=fun x hx=>by
    rcases rall_cases hx with rfl | rfl | rfl | hx | ⟨r,hr,hx⟩
    · exact hB
    · exact bm.1
    · exact bv.1
    · cases hx
    · exact m.base r hr x hx
  refine ⟨⟨mo,c,vo,c',none,0,[],l⟩,⟨?_,by rw [hms];exact hl,?_,?_,fun i r p hr hp => ?_,World.ownsRow_nil _ _ _ _,rfl,fun k hk => ?_,fun x hx=>hQ x (hall x hx),m.apart⟩,hall⟩
  · show w.heap[G]?=some (.cells #[.slice (some ⟨mo,0,none⟩) (newGr n).ms.length c,.slice (some ⟨vo,0,none⟩) (newGr n).ms.length c',.slice none 0 0] _)
    rw [hms];exact hb
  · rw [hms];exact zW hm (Nat.zero_le _)
  · rw [hms];exact zW hv (Nat.zero_le _)
  · have hi:i<n:=by rw [← hl];exact (List.getElem?_eq_some_iff.1 hr).1
    have hpe:p=(zBY ((i:Int)+1) n 0 0 [],vt0):=by
      unfold newGr at hp
      simp only [List.getElem?_map,List.getElem?_range hi,Option.map_some] at hp
      injection hp with hp
      exact hp.symm
    subst hpe
    obtain ⟨h1,h2⟩:=m.mem i r hr
    exact ⟨h1,h2.monoO fun y _ hy=>hy.elim,fun hn=>(hn rfl).elim⟩
  · exact absurd hk (Nat.not_lt_zero _)
theorem RRows.kindM {B:Nat} {w:World} {G:Nat} {A:Option Addr} {c:Nat} {A':Option Addr} {c':Nat} {xs ys:List Value} (h:RRows B w G A c A' c' xs ys):∀ x ∈ G :: zU A,x<w.heap.size → ∃ cs t,w.heap[x]?=some (.cells cs t)∧t≠93∧t≠58∧t≠4∧t≠3:=fun x hx _=>by
  rcases List.mem_cons.1 hx with rfl | hx
  · exact ⟨_,_,h.blk,by decide,by decide,by decide,by decide⟩
  · obtain ⟨_,hk⟩:=zBE h.mrow _ hx
    exact ⟨_,_,hk,by decide,by decide,by decide,by decide⟩
theorem RRows.kindV {B:Nat} {w:World} {G:Nat} {A:Option Addr} {c:Nat} {A':Option Addr} {c':Nat} {xs ys:List Value} (h:RRows B w G A c A' c' xs ys):∀ x ∈ G :: zU A',x<w.heap.size → ∃ cs t,w.heap[x]?=some (.cells cs t)∧t≠93∧t≠58∧t≠4∧t≠3:=fun x hx _=>by
  rcases List.mem_cons.1 hx with rfl | hx
  · exact ⟨_,_,h.blk,by decide,by decide,by decide,by decide⟩
  · obtain ⟨_,hk⟩:=zBE h.vrow _ hx
    exact ⟨_,_,hk,by decide,by decide,by decide,by decide⟩
theorem RMAt.chgK {w w':World} {b:Nat} {a:RA} {m:Mb} {S:List Nat} (h:RMAt w b a m) (hl:m.log=[]) (hC:Chg S w w') (hS:∀ x ∈ S,x<w.heap.size → ∃ cs t,w.heap[x]?=some (.cells cs t)∧t≠93∧t≠58∧t≠4∧t≠3):RMAt w' b a m:=by
  refine h.chg hC (fun x hx hc => ?_) (fun hn=>(hn (by rw [hl];rfl)).elim)
  obtain ⟨cs,t,q1,q2⟩:=foot_kindR h hx
  obtain ⟨ds,u,z1,z2,z3,z4,z5⟩:=hS x hc (zB q1)
  rw [q1] at z1
  injection z1 with z1
  injection z1 with _ z1
  subst z1
  rcases q2 with q | q | q
  · exact z3 q
  · exact z4 q
  · exact z5 q
theorem ptrM_snoc (l:List RM) (r:RM):ptrM (l ++ [r])=ptrM l ++ [.pointer (some ⟨r.b,0,none⟩)]:=by simp [ptrM]
theorem ptrR_snoc (l:List RM) (r:RM):ptrR (l ++ [r])=ptrR l ++ [.pointer (some ⟨r.v,0,none⟩)]:=by simp [ptrR]
def RetRGr (Q:Nat → Prop) (n:Nat) (w:World) (e:Ending) (w':World):Prop:=∃ G L,e=.returned (.tuple #[.pointer (some ⟨G,0,none⟩),.int .i64 0])∧RGAt Q w' G L (newGr n)∧(∀ x ∈ rall G L,w.heap.size≤x)∧Below w.heap.size w w'
set_option maxRecDepth 100000 in
set_option maxHeartbeats 6400000 in
theorem rgnew_any (n:Nat) (w:World) (h1:1≤n) (h16:n≤16) {Q:Nat → Prop} (hQ:∀ x,w.heap.size≤x → Q x):Calls Tryz.prog 19 #[.int .i64 (n:Int)] w (RetRGr Q n w):=by
  have hn1:(1:Int)≤(n:Int):=by omega
  have hn2:(n:Int)≤16:=by omega
  have hal:=zC w (.cells #[.slice none 0 0,.slice none 0 0,.slice none 0 0] 52)
  have g0:=zG w (.cells #[.slice none 0 0,.slice none 0 0,.slice none 0 0] 52)
  have HNE:Hid (∀ (k:Nat) W,k<n → Calls Tryz.prog 42 #[.int .i64 ((k:Int)+1),.int .i64 (n:Int),zV 0 0,logV 0 0 none 0 0] W (RetRNew (zBY ((k:Int)+1) n 0 0 []) none W)):=fun k W hk=>rnew_yes ((k:Int)+1) 0 0 n none 0 [] W ⟨.inl rfl,Nat.zero_le _,fun _=>rfl,Nat.zero_le _⟩ (fresh_pair (x:=vt0) hk h16 vt0_ok (Nat.zero_le _) rfl (fun e he=>by cases he) (Int.le_refl _)).1
  go_enter Tryz.func19,Tryz.ntmps19
  go_wp2
  go_loopw [5] (fun i wr=>∃ (l:List RM) (A:Option Addr) (c:Nat) (A':Option Addr) (c':Nat),l.length≤n∧i=.int .i64 ((l.length:Int)+1)∧RRows w.heap.size wr w.heap.size A c A' c' (ptrM l) (ptrR l)∧RMems w.heap.size wr n l∧Below w.heap.size w wr) (fun i _=>(n+1) - (intOf i).toNat)
  case atStart=>exact ⟨[],none,0,none,0,Nat.zero_le _,rfl,⟨g0,World.ownsRow_nil _ _ _ _,World.ownsRow_nil _ _ _ _⟩,⟨fun i r h=>by simp at h,fun i j r s _ h=>by simp at h,fun r h=>by cases h⟩,hal⟩
  case round =>
    obtain ⟨l,A,c,A',c',hk,rfl,hR,hM,hB⟩:=hrel
    have e1:(ptrM l).length=l.length:=by simp [ptrM]
    have e2:(ptrR l).length=l.length:=by simp [ptrR]
    by_cases hlt2:l.length<n
    · have hk1:(l.length:Int)+1≤(n:Int):=by omega
      have hk2:(1:Int)≤(l.length:Int)+1:=by omega
      have hw1:=zS (x:=(l.length:Int)+1+1) (by omega) (by omega)
      have HN1:=Lib.hid (HNE.out l.length wr hlt2)
      have HRH:=Lib.hid hR
      have HMH:=Lib.hid hM
      have hlt0:=Lib.hid (fun (r:RM) (hr:r ∈ l) (x:Nat) (hx:x ∈ rft r)=>hM.lt hr hx)
      have hzr:=hB.size
      obtain ⟨c0,c1,c2,f0,f1,f2,hlt⟩:=box3 hR.blk
      clear hR hM
      go_upto_region 8 with (go_at_call 42;refine HN1.out.mono ?_;rintro e w1 ⟨b1,a1,rfl,ha1,m1,hF1,hb1⟩)
      have hB1:=Lib.hid (hB.trans (hb1.mono hB.size))
      have hR1:=HRH.out.below hb1
      have hM1:=Lib.hid (HMH.out.below hb1)
      have hz1:=hb1.size
      clear c0 c1 c2 f0 f1 f2 hlt HRH HMH hB
      obtain ⟨c0,c1,c2,f0,f1,f2,hlt⟩:=box3 hR1.blk
      have ho1:=hR1.mrow
      have hapG:=hR1.apart.1
      have HR1:=Lib.hid hR1
      have hz0:=hB1.out.size
      clear hR1
      have hx1:∀ u ∈ [Value.pointer (some ⟨b1,0,none⟩)],u.oneCell'=true:=fun u hu=>by rw [List.mem_singleton] at hu;subst hu;rfl
      have HR2:=Lib.hid (HR1.out.below (zC w1 (.cells #[.pointer (some ⟨b1,0,none⟩)] 53)))
      have HRW:=Lib.hid (RowAt.new w1 #[.pointer (some ⟨b1,0,none⟩)] 53)
      go_upto_region 9 with (at_builtin;refine zF rfl (.tmp 33) (.tmp 35) rfl elemPM w.heap.size (.slice A (ptrM l).length c) (ptrM l).length (ptrM l) (by first | rfl | (rw [e1];rfl)) HR2.out.mrow (some ⟨w1.heap.size,0,none⟩) 1 1 [.pointer (some ⟨b1,0,none⟩)] (by rfl) (by rfl) HRW.out hx1 (by unfold maxLen;omega) (by omega) (by simp;omega) (fun h=>by cases h) ?_;intro a3 c3 w3 own3 hg3 hat3;have G3:=zY hg3 HR2.out.blk (fun e=>hapG (zAT e));obtain ⟨k0,k1,k2,kf0,kf1,kf2,klt⟩:=box3 G3)
      obtain ⟨R4,C4⟩:=HR2.out.pushM hg3 own3
      have hk4:=HR2.out.kindM
      have hbA:=zC w1 (.cells #[.pointer (some ⟨b1,0,none⟩)] 53)
      have M4:=(hM1.out.below hbA).chg C4 hk4
      have m4:=(m1.below hbA).chgK rfl C4 hk4
      have hB4:Below w.heap.size w (w3.setCell ⟨w.heap.size,0,none⟩ (.slice a3 ((ptrM l).length+1) c3)):=(Below.appended (hB1.out.trans (hbA.mono hz0)) HR2.out.mrow hg3 (Nat.le_trans hz0 hbA.size) (Nat.le_refl _)).setCell (p:=⟨w.heap.size,0,none⟩) (Nat.le_refl _) _
      have hz4:w1.heap.size≤(w3.setCell ⟨w.heap.size,0,none⟩ (.slice a3 ((ptrM l).length+1) c3)).heap.size:=Nat.le_trans hbA.size C4.size
      have m4l:=Lib.hid m4.lt
      clear k0 k1 k2 kf0 kf1 kf2 klt c0 c1 c2 f0 f1 f2 hlt G3 hg3 own3 hat3 HR1 HR2 HRW C4 hk4 hbA hM1 m1 ho1 hapG
      try rw [e1]
      try rw [e1] at R4 M4 m4 hB4 hz4 m4l
      generalize (w3.setCell ⟨w.heap.size,0,none⟩ (.slice a3 (l.length+1) c3))=W4 at *
      have hV:=zC W4 (.cells #[.slice none 0 0,.int .i64 0,.int .i64 0,.int .i64 0,.slice none 0 0] 93)
      have rv5:RvAt (W4.alloc (.cells #[.slice none 0 0,.int .i64 0,.int .i64 0,.int .i64 0,.slice none 0 0] 93)) W4.heap.size (fun _=>False) vt0:=⟨none,0,none,0,zG W4 _,.inl rfl,fun _=>rfl,Nat.le_refl _,fun h=>(h rfl).elim,⟨.inl rfl,Nat.zero_le _,fun _=>rfl,Nat.zero_le _⟩,fun h=>(h rfl).elim⟩
      have hP:=zC (W4.alloc (.cells #[.slice none 0 0,.int .i64 0,.int .i64 0,.int .i64 0,.slice none 0 0] 93)) (.cells #[.pointer (some ⟨W4.heap.size,0,none⟩)] 88)
      have hb6:=hV.trans (hP.mono hV.size)
      have HRW:=Lib.hid (RowAt.new (W4.alloc (.cells #[.slice none 0 0,.int .i64 0,.int .i64 0,.int .i64 0,.slice none 0 0] 93)) #[.pointer (some ⟨W4.heap.size,0,none⟩)] 88)
      have hzV:(W4.alloc (.cells #[.slice none 0 0,.int .i64 0,.int .i64 0,.int .i64 0,.slice none 0 0] 93)).heap.size=W4.heap.size+1:=by simp
      have HR6:=Lib.hid (R4.below hb6)
      have rv6:=rv5.below hP
      have HB6:=Lib.hid (hB4.trans (hb6.mono hB4.size))
      have M6:=Lib.hid (M4.below hb6)
      have m6:=Lib.hid (m4.below hb6)
      have hx2:∀ u ∈ [Value.pointer (some ⟨W4.heap.size,0,none⟩)],u.oneCell'=true:=fun u hu=>by rw [List.mem_singleton] at hu;subst hu;rfl
      obtain ⟨c0,c1,c2,f0,f1,f2,hlt⟩:=box3 R4.blk
      have hapG:=R4.apart.2.1
      have hG4:=zB R4.blk
      have hvb:=Lib.hid (zAU R4.vrow)
      have hz6:=HB6.out.size
      clear hV hP hb6 rv5 R4 M4 m4 m4l
      go_wp2_with (at_builtin;refine zF rfl (.tmp 43) (.tmp 46) rfl elemPV w.heap.size (.slice A' (ptrR l).length c') (ptrR l).length (ptrR l) (by first | rfl | (rw [e2];rfl)) HR6.out.vrow (some ⟨W4.heap.size+1,0,none⟩) 1 1 [.pointer (some ⟨W4.heap.size,0,none⟩)] (by first | rfl | (rw [← hzV];rfl)) (by rfl) (by rw [← hzV];exact HRW.out) hx2 (by unfold maxLen;omega) (by omega) (by omega) (fun h=>by cases h) ?_;intro a7 c7 w7 own7 hg7 hat7;have G7:=zY hg7 HR6.out.blk (fun e=>hapG (zAT e));obtain ⟨k0,k1,k2,kf0,kf1,kf2,klt⟩:=box3 G7)
      obtain ⟨R8,C8⟩:=HR6.out.pushV hg7 own7
      have hk8:=HR6.out.kindV
      have M8:=M6.out.chg C8 hk8
      have m8:=m6.out.chgK rfl C8 hk8
      have hB8:Below w.heap.size w (w7.setCell ⟨w.heap.size,1,none⟩ (.slice a7 ((ptrR l).length+1) c7)):=(Below.appended HB6.out HR6.out.vrow hg7 hz6 (Nat.le_refl _)).setCell (p:=⟨w.heap.size,1,none⟩) (Nat.le_refl _) _
      have rv8:=rv6.chgO C8 (fun hc=>by
        rcases List.mem_cons.1 hc with q | q
        · omega
        · have:=(hvb.out _ q).2;omega) (fun y _ hy=>hy.elim)
      have hpush:=M8.push (r:=⟨b1,a1,W4.heap.size⟩) m8 rv8 (fun x hx=>by
        rcases zCU hx with q | q
        · rw [q];show w.heap.size≤W4.heap.size;omega
        · have:=hF1 x q;omega) (fun s hs x hx hc=>by
        have h9:=hlt0.out s hs x hx
        rcases zCU hc with q | q
        · have q:x=W4.heap.size:=q
          omega
        · have:=hF1 x q;omega)
      rw [← ptrM_snoc l ⟨b1,a1,W4.heap.size⟩,← ptrR_snoc l ⟨b1,a1,W4.heap.size⟩] at R8
      rw [e2] at R8 hpush hB8
      exact ⟨⟨l ++ [⟨b1,a1,W4.heap.size⟩],_,_,_,_,by rw [List.length_append];simp;omega,by rw [List.length_append];simp,R8,hpush,hB8⟩,by simp [intOf];omega⟩
    · have hk1:¬ (l.length:Int)+1≤(n:Int):=by omega
      obtain ⟨L,q1,q2⟩:=hR.whole hM (by omega) h1 (Nat.le_refl _) hQ
      have HRH:=Lib.hid q1
      clear hR hM q1
      go_wp2
      go_ret2
      exact ⟨_,L,rfl,HRH.out,q2,hB⟩
section
variable {Q:Nat → Prop} {w:World} {G:Nat} {L:RL} {g:Gr}
set_option maxRecDepth 100000 in
set_option maxHeartbeats 3200000 in
theorem rgsettled_any (h:RGAt Q w G L g) (hn:g.ms.length≤16) {i:Nat} {p:Mb × Vt} (hp:g.ms[i]?=some p) (hl:p.1.log.length≤64) (hs0:0≤p.1.settled) (hs64:p.1.settled≤64) :
    Calls Tryz.prog 23 #[.pointer (some ⟨G,0,none⟩),.int .i64 ((i:Int)+1)] w fun e w'=>∃ A c,e=.returned (.slice A (zBG p.1).length c)∧LogIn w' A c (zBG p.1)∧Below w.heap.size w w':=by
  obtain ⟨r,hr⟩:=h.rOf hp
  have hi:i<g.ms.length:=(List.getElem?_eq_some_iff.1 hp).1
  have hM:=(h.mem i r p hr hp).1
  have HMB:Hid (∀ W,RGAt Q W G L g → Calls Tryz.prog 43 #[.pointer (some ⟨G,0,none⟩),.int .i64 ((i:Int)+1)] W fun e w'=>e=.returned (.bool true)∧Below W.heap.size W w'):=fun W hW=>by
    have:=zBI hW ((i:Int)+1)
    rwa [show (decide (1≤(i:Int)+1) && decide ((i:Int)+1≤(g.ms.length:Int)))=true by rw [decide_eq_true (by omega),decide_eq_true (by omega)];rfl] at this
  obtain ⟨n,hn2⟩:∃ n:Nat,p.1.settled=(n:Int):=⟨p.1.settled.toNat,by omega⟩
  have HSE:Hid (zBG p.1=p.1.log.take n):=by
    rw [Hid];unfold zBG;rw [hn2];rfl
  have HG:=Lib.hid h
  have hk0:(0:Int)≤(i:Int):=by omega
  have hk1:(i:Int)<(g.ms.length:Int):=by omega
  have hwi:=zS (x:=(i:Int)) (by omega) (by omega)
  have hlog:=hM.log
  have hcap:=hlog.cap
  have HLG:=Lib.hid hlog
  clear h hlog
  go_enter Tryz.func23,Tryz.ntmps23
  go_upto_region 4 with (go_at_call 43;refine (HMB.out _ (by first | exact HG.out | exact HG.out.below (zK _).drew)).mono ?_;rintro e w1 ⟨rfl,hb1⟩)
  have H1:=HG.out.below hb1
  have hl1:=HLG.out.below hb1
  have hM1:=(H1.mem i r p hr hp).1
  obtain ⟨c0,c1,c2,f0,f1,f2,hlt⟩:=H1.cells
  obtain ⟨m0,m1,m2⟩:=H1.mcell hr
  obtain ⟨d0,d1,d2,d3,d4,d5,d6,d7,d8,d9,d10,d11,dlt⟩:=zBA hM1.blk
  rw [hn2] at d8
  replace hb1:=Lib.hid hb1
  by_cases hc:p.1.log.length<n
  · have hg:decide ((p.1.log.length:Int)<(n:Int))=true:=by simp;omega
    have hg2:decide (p.1.log.length<n)=true:=by simp;omega
    have HSL:Hid (∀ Z,(Instr.slice 37 (.slice r.a.la p.1.log.length r.a.lc) none (some (.int .i64 (p.1.log.length:Int))) none).run Tryz.prog Z=.ok (.slice r.a.la p.1.log.length r.a.lc) Z):=fun Z=>zCN zCX _ _ _ p.1.log.length hcap Z
    have hsl:=HSL.out
    go_wp2
    go_ret
    have hse:zBG p.1=p.1.log:=by rw [HSE.out,List.take_of_length_le (by omega)]
    rw [hse]
    exact ⟨_,_,rfl,hl1.below (by first | exact zK _ | exact (zK _).drew),by first | exact hb1.out | exact hb1.out.drew | exact hb1.out.trans (zK _).drew⟩
  · have hg:decide ((p.1.log.length:Int)<(n:Int))=false:=by simp;omega
    have hg2:decide (p.1.log.length<n)=false:=by simp;omega
    have HSL:Hid (∀ Z,(Instr.slice 37 (.slice r.a.la p.1.log.length r.a.lc) none (some (.int .i64 (n:Int))) none).run Tryz.prog Z=.ok (.slice r.a.la n r.a.lc) Z):=fun Z=>zCN zCX _ _ _ n (by omega) Z
    have hsl:=HSL.out
    go_wp2
    go_ret
    have hse:zBG p.1=p.1.log.take n:=HSE.out
    have hlen:(p.1.log.take n).length=n:=by rw [List.length_take];omega
    rw [hse,hlen]
    have hl2:LogIn w1 r.a.la r.a.lc (p.1.log.take n):=⟨by rw [← zCR];exact hl1.row.take _,by rw [hlen];omega,fun h0=>by have:=hl1.none_ h0;simp_all,by have:=hl1.max;rw [hlen];omega⟩
    exact ⟨_,_,rfl,hl2.below (by first | exact zK _ | exact (zK _).drew),by first | exact hb1.out | exact hb1.out.drew | exact hb1.out.trans (zK _).drew⟩
end
end Go.Proofs.YtnljdkglncmfaaaGreat
