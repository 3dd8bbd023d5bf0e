/-
  Part Gg of the proof.
-/
import Derived.Test.YtnljdkglncmfaaaGreatGe
import Derived.Test.YtnljdkglncmfaaaGreatGf
import Derived.Test.YtnljdkglncmfaaaGreatBd
namespace Go.Proofs.YtnljdkglncmfaaaGreat
open Go.RowKit
set_option linter.unusedVariables false
section
open Go.ChangeShapes Go.WideShapes Go.Deep Go.Joins
abbrev It:=Int × Int × Int × Int
def itC (m:It):List Value:=[.int .i64 m.1,.int .i64 m.2.1,.int .i64 m.2.2.1,.int .i64 m.2.2.2]
structure ItemsIn (w:World) (a:Option Addr) (cap:Nat) (ms:List It):Prop where
  at_:∀ i m,ms[i]?=some m → ∃ b off,a=some ⟨b,off,none⟩∧b<w.heap.size∧∀ j u,(itC m)[j]?=some u → w.cell? ⟨b,off+(i * 4+j),none⟩=some u
  cap:ms.length≤cap
  none_:a=none → ms.length=0
  max:ms.length≤maxLen
theorem ItemsIn.below {w w':World} {a:Option Addr} {cap:Nat} {ms:List It} (h:ItemsIn w a cap ms) (hb:Below w.heap.size w w'):ItemsIn w' a cap ms :=
  ⟨fun i m hi=>by
    obtain ⟨b,off,h1,h2,h3⟩:=h.at_ i m hi
    exact ⟨b,off,h1,Nat.lt_of_lt_of_le h2 hb.size,fun j u hj=>((bcell hb).1 _ _ h2).trans (h3 j u hj)⟩,h.cap,h.none_,h.max⟩
theorem item_cells {w:World} {a:Option Addr} {cap:Nat} {ms:List It} (h:ItemsIn w a cap ms) {k:Nat} (hk:k<ms.length) :
    ∃ b off,a=some ⟨b,off,none⟩∧b<w.heap.size∧w.cell? ⟨b,off+k * 4,none⟩=some (.int .i64 (ms[k]).1)∧w.cell? ⟨b,off+k * 4+1,none⟩=some (.int .i64 (ms[k]).2.1)∧w.cell? ⟨b,off+k * 4+2,none⟩=some (.int .i64 (ms[k]).2.2.1)∧w.cell? ⟨b,off+k * 4+3,none⟩=some (.int .i64 (ms[k]).2.2.2):=by
  obtain ⟨b,off,h1,h2,h3⟩:=h.at_ k _ (List.getElem?_eq_getElem hk)
  have e:∀ j,off+k * 4+j=off+(k * 4+j):=fun j=>by omega
  refine ⟨b,off,h1,h2,h3 0 _ rfl,?_,?_,?_⟩
  · rw [e 1];exact h3 1 _ rfl
  · rw [e 2];exact h3 2 _ rfl
  · rw [e 3];exact h3 3 _ rfl
section
variable {H:Type} {enc:TypeId × Value → H} {w:World}
theorem cells_item:Tryz.prog.cellsOf 31=4:=by kernel_rfl
theorem cells_intI:Tryz.prog.cellsOf 3=1:=by kernel_rfl
theorem int_cellI {n:Nat} {cs:List Value} {c:Value} {xs:List (DataW H × List MemPlace)} (f:Field) {i o:Nat} (h:DataW.trod enc Tryz.prog w 0 (fun _=>true) true n f.type ((cs.drop f.offset).take (Tryz.prog.cellsOf f.type))=xs[i]?) (hi:i<xs.length) (ht:f.type=3) (ho:f.offset=o) (hc:cs[o]?=some c):∃ k,c=.int .i64 k∧(Lit.int .i64 k).wf=true:=by
  obtain ⟨hol,hoe⟩:=List.getElem?_eq_some_iff.1 hc
  rw [ht,ho,cells_intI,List.getElem?_eq_getElem hi,List.drop_eq_getElem_cons hol,hoe] at h
  obtain ⟨k,h1,_,h2⟩:=DataW.trod_int Tryz.underlying3 h
  simp at h1
  exact ⟨k,h1,h2⟩
theorem list4 {cs:List Value} (h:cs.length=4):∃ c0 c1 c2 c3,cs=[c0,c1,c2,c3]:=by
  match cs,h with
  | [c0,c1,c2,c3],_=>exact ⟨c0,c1,c2,c3,rfl⟩
set_option maxRecDepth 100000 in
theorem open_item {fuel:Nat} {cs:List Value} {y:DataW H × List MemPlace} (h:DataW.trod enc Tryz.prog w 0 (fun _=>true) true fuel 31 cs=some y):∃ m:It,cs=itC m:=by
  obtain ⟨xs,n,_,_,hl,hx,hf⟩:=DataW.trod_struct Tryz.underlying31 h
  rw [cells_item] at hl
  obtain ⟨c0,c1,c2,c3,rfl⟩:=list4 hl
  obtain ⟨k0,rfl,_⟩:=int_cellI _ (i:=0) (c:=c0) (hf 0 _ rfl) (by rw [hx];decide) rfl rfl rfl
  obtain ⟨k1,rfl,_⟩:=int_cellI _ (i:=1) (c:=c1) (hf 1 _ rfl) (by rw [hx];decide) rfl rfl rfl
  obtain ⟨k2,rfl,_⟩:=int_cellI _ (i:=2) (c:=c2) (hf 2 _ rfl) (by rw [hx];decide) rfl rfl rfl
  obtain ⟨k3,rfl,_⟩:=int_cellI _ (i:=3) (c:=c3) (hf 3 _ rfl) (by rw [hx];decide) rfl rfl rfl
  exact ⟨(k0,k1,k2,k3),rfl⟩
set_option maxRecDepth 100000 in
theorem open_items_arg {r : Reach} {b0 : Nat} {v : Value} {d : DataW H} {p : List MemPlace} (hv : Value.okWide Tryz.prog w r b0 22 v) (h : DataW.Trod enc Tryz.prog w 0 (fun _ => true) true 22 v d p) :
    ∃ a cap ms,v=.slice a ms.length cap∧ItemsIn w a cap ms:=by
  obtain ⟨a,l,c,rfl⟩:=okWide_slice Tryz.underlying22 hv
  obtain ⟨fuel,hf⟩:=h
  rcases open_slice Tryz.underlying22 (show DataW.trod enc Tryz.prog w 0 (fun _=>true) true fuel 22 [.slice a l c]=some (d,p) by simpa [Value.cells] using hf) with ⟨h1,_⟩ | ⟨a',len,cap,m,n,D,Pl,hcs,hb,hl,hm,hmm,hx,hi⟩
  · simp at h1
    obtain ⟨rfl,rfl,rfl⟩:=h1
    exact ⟨none,0,[],rfl,⟨fun i m h=>by simp at h,Nat.le_refl _,fun _=>rfl,Nat.zero_le _⟩⟩
  · simp at hcs
    obtain ⟨rfl,rfl,rfl⟩:=hcs
    obtain ⟨ms,hel,hes⟩:=list_choose (R:=fun i (m:It)=>∀ j u,(itC m)[j]?=some u → w.cell? (a'.add (i * 4+j))=some u) l fun i hil=>by
      obtain ⟨cs',hc,ht⟩:=hi i (by rw [hmm];simp;omega)
      rw [cells_item] at hc
      obtain ⟨m,rfl⟩:=open_item ht
      obtain ⟨_,_,hat⟩:=World.cells?_some hc
      refine ⟨m,fun j u hj => ?_⟩
      have hj7:j<4:=by
        rcases Nat.lt_or_ge j 4 with h | h
        · exact h
        · rw [List.getElem?_eq_none (by exact h)] at hj;cases hj
      rw [← Go.Deep.add_add,hat j hj7]
      exact hj
    subst hel
    refine ⟨some a',c,ms,rfl,⟨fun i m him => ?_,hl,(fun h=>by cases h),Nat.le_trans hl hm⟩⟩
    have h1:=hes i m him
    obtain ⟨b,off,spot⟩:=a'
    have h0:=h1 0 _ rfl
    have hspot:spot=none:=by
      have hlt0:0<ms.length:=Nat.lt_of_le_of_lt (Nat.zero_le i) (List.getElem?_eq_some_iff.1 him).1
      have z1:=hes 0 _ (List.getElem?_eq_getElem hlt0)
      simpa [Addr.add] using World.cell?_spot (z1 0 _ rfl)
    subst hspot
    have hadd:∀ j,(⟨b,off,none⟩:Addr).add j=⟨b,off+j,none⟩:=fun j=>by unfold Addr.add;split <;> simp_all
    rw [hadd] at h0
    exact ⟨b,off,rfl,block_lt_of_cell h0,fun j u hj=>by have:=h1 j u hj;rwa [hadd] at this⟩
end
end
theorem acts_net {g:Gr} {i:Int} {m:Mb} {said:List Ms}:(g.acts i m said).net.length≤g.net.length+said.length:=by
  unfold Gr.acts
  split
  · show (g.net ++ said).length≤_
    rw [List.length_append]
    exact Nat.le_refl _
  · exact Nat.le_add_right _ _
theorem does_net {g:Gr} (h:GrOk g) (k a b c:Int):(g.does k a b c).1.net.length≤g.net.length+16:=by
  unfold Gr.does
  split
  · exact Nat.le_add_right _ _
  rename_i ht
  have ht:g.there k a=0:=by
    by_cases q:g.there k a=0
    · exact q
    · exact (ht q).elim
  split
  · obtain ⟨h1,h2⟩:=GrOk.there_member ht (by omega)
    exact Nat.le_trans acts_net (Nat.add_le_add_left (timeout_le (h.at_ h1 h2).1.mb) _)
  split
  · obtain ⟨h1,h2⟩:=GrOk.there_member ht (by omega)
    exact Nat.le_trans acts_net (Nat.add_le_add_left (beat_le (h.at_ h1 h2).1.mb) _)
  split
  · obtain ⟨h1,h2⟩:=GrOk.there_member ht (by omega)
    unfold Gr.propose
    split
    · exact Nat.le_add_right _ _
    · split
      · exact Nat.le_trans acts_net (Nat.add_le_add_left (propose_le (h.at_ h1 h2).1.mb _) _)
      · exact Nat.le_add_right _ _
  have het:∀ j,(g.take j).net.length≤g.net.length:=fun j=>List.length_eraseIdx_le ..
  split
  · obtain ⟨h1,h2⟩:=GrOk.there_msg ht (by omega)
    have hm:=h.msg h2
    have hg:=(h.take a.toNat)
    have:=het a.toNat
    have hx:=acts_net (g:=g.take a.toNat) (i:=(g.msg a.toNat).dst) (m:=(((g.take a.toNat).at_ (g.msg a.toNat).dst).1.hear (g.msg a.toNat)).1) (said:=(((g.take a.toNat).at_ (g.msg a.toNat).dst).1.hear (g.msg a.toNat)).2)
    have hle:=hear_le (hg.at_ (i:=(g.msg a.toNat).dst) hm.dst.1 hm.dst.2).1.mb (g.msg a.toNat)
    show ((g.take a.toNat).acts _ _ _).net.length≤_
    omega
  split
  · exact Nat.le_trans (het _) (Nat.le_add_right _ _)
  split
  · show (g.net ++ [_]).length≤_
    rw [List.length_append]
    simp
  split
  · exact Nat.le_add_right _ _
  · exact Nat.le_trans (het _) (Nat.le_add_right _ _)
theorem does_len {g:Gr} (k a b c:Int):(g.does k a b c).1.ms.length=g.ms.length:=by
  unfold Gr.does Gr.propose Gr.hears Gr.torn Gr.crash Gr.anew
  repeat' split
  all_goals first
    | rfl
    | exact Gr.acts_len _ _ _ _
    | exact Gr.set_len _ _ _
    | (simp only [Gr.acts_len,Gr.set_len];rfl)
abbrev Gr.item (g:Gr) (m:It):Gr:=(g.does m.1 m.2.1 m.2.2.1 m.2.2.2).1
structure Ran (n k:Nat) (g:Gr):Prop where
  ok:GrOk g
  many:g.ms.length=n
  net:g.net.length≤16 * k
theorem Ran.next {n k:Nat} {g:Gr} (h:Ran n k g) (m:It):Ran n (k+1) (g.item m):=⟨h.ok.does _ _ _ _,by rw [← h.many];exact does_len _ _ _ _,by have:=does_net h.ok m.1 m.2.1 m.2.2.1 m.2.2.2;have:=h.net;show (g.does _ _ _ _).1.net.length≤_;omega⟩
theorem Ran.new {n:Nat} (h1:1≤n) (h16:n≤16):Ran n 0 (newGr n):=⟨newGr_ok h1 h16,by simp [newGr],Nat.zero_le _⟩
structure Two (B:Nat) (w:World) (G:Nat) (L:GL) (H:Nat) (M:GL) (g:Gr) (h:Gr):Prop where
  a:GAt w G L g
  b:GAt w H M h
  apart:∀ x ∈ gall G L,x ∉ gall H M
  ga:∀ x ∈ gall G L,B≤x
  gb:∀ x ∈ gall H M,B≤x
theorem Two.below {B:Nat} {w w':World} {G H:Nat} {L M:GL} {g h:Gr} (t:Two B w G L H M g h) (hb:Below w.heap.size w w'):Two B w' G L H M g h:=⟨t.a.below hb,t.b.below hb,t.apart,t.ga,t.gb⟩
theorem Two.swap {B:Nat} {w:World} {G H:Nat} {L M:GL} {g h:Gr} (t:Two B w G L H M g h):Two B w H M G L h g:=⟨t.b,t.a,fun x hx hc=>t.apart x hc hx,t.gb,t.ga⟩
theorem Two.step {B:Nat} {w w':World} {G H:Nat} {L L' M:GL} {g g' h:Gr} (t:Two B w G L H M g h) (hB:B≤w.heap.size) (hg:GAt w' G L' g') (hs:GStep w G L w' L'):Two B w' G L' H M g' h :=
  ⟨hg,t.b.chgOut hs.chg fun x hx hc=>t.apart x hc hx,fun x hx hc=>by
    rcases hs.sub x hx with h1 | h1
    · exact t.apart x h1 hc
    · have:=t.b.gltAll x hc;omega,fun x hx=>by
    rcases hs.sub x hx with h1 | h1
    · exact t.ga x h1
    · omega,t.gb⟩
section
variable {w:World} {G:Nat} {L:GL} {g:Gr}
set_option maxHeartbeats 1600000 in
theorem glog_no (h:GAt w G L g) (a:Int) (ha:a<1∨(g.ms.length:Int)<a):Calls Tryz.prog 15 #[.pointer (some ⟨G,0,none⟩),.int .i64 a] w fun e w'=>e=.returned (.slice none 0 0)∧Below w.heap.size w w':=by
  have HH:=Lib.hid (has_no h a ha)
  clear h ha
  go_enter Tryz.func15,Tryz.ntmps15
  go_wp2_with (go_at_call 37;refine HH.out.mono ?_;rintro e wx ⟨rfl,hwx⟩;subst hwx)
  go_ret
  exact ⟨rfl,zK _⟩
set_option maxHeartbeats 1600000 in
theorem grole_no (h:GAt w G L g) (a:Int) (ha:a<1∨(g.ms.length:Int)<a):Calls Tryz.prog 13 #[.pointer (some ⟨G,0,none⟩),.int .i64 a] w fun e w'=>e=.returned (.int .i64 0)∧Below w.heap.size w w':=by
  have HH:=Lib.hid (has_no h a ha)
  clear h ha
  go_enter Tryz.func13,Tryz.ntmps13
  go_wp2_with (go_at_call 37;refine HH.out.mono ?_;rintro e wx ⟨rfl,hwx⟩;subst hwx)
  go_ret
  exact ⟨rfl,zK _⟩
set_option maxHeartbeats 1600000 in
theorem gsettled_no (h:GAt w G L g) (a:Int) (ha:a<1∨(g.ms.length:Int)<a):Calls Tryz.prog 17 #[.pointer (some ⟨G,0,none⟩),.int .i64 a] w fun e w'=>e=.returned (.slice none 0 0)∧Below w.heap.size w w':=by
  have HH:=Lib.hid (glog_no h a ha)
  clear h ha
  go_enter Tryz.func17,Tryz.ntmps17
  go_wp2_with (go_at_call 15;refine HH.out.mono ?_;rintro e w1 ⟨rfl,hb1⟩)
  go_ret
  exact ⟨rfl,hb1⟩
end
set_option maxHeartbeats 1600000 in
theorem rgsettled_no {Q:Nat → Prop} {w:World} {G:Nat} {L:RL} {g:Gr} (h:RGAt Q w G L g) (a:Int) (ha:a<1∨(g.ms.length:Int)<a):Calls Tryz.prog 23 #[.pointer (some ⟨G,0,none⟩),.int .i64 a] w fun e w'=>e=.returned (.slice none 0 0)∧Below w.heap.size w w':=by
  have HH:Hid (Calls Tryz.prog 43 #[.pointer (some ⟨G,0,none⟩),.int .i64 a] w fun e w'=>e=.returned (.bool false)∧Below w.heap.size w w'):=by
    have:=zBI h a
    have e:(decide (1≤a) && decide (a≤(g.ms.length:Int)))=false:=by
      rcases ha with q | q
      · rw [decide_eq_false (by omega)];rfl
      · rw [decide_eq_false (show ¬ a≤(g.ms.length:Int) by omega),Bool.and_false]
    rwa [e] at this
  clear h ha
  go_enter Tryz.func23,Tryz.ntmps23
  go_wp2_with (go_at_call 43;refine HH.out.mono ?_;rintro e w1 ⟨rfl,hb1⟩)
  go_ret
  exact ⟨rfl,hb1⟩
structure Both (B:Nat) (w:World) (G:Nat) (L:GL) (H:Nat) (M:RL) (g k:Gr):Prop where
  a:GAt w G L g
  b:RGAt (fun x=>x ∉ gall G L) w H M k
  ga:∀ x ∈ gall G L,B≤x
  gb:∀ x ∈ rall H M,B≤x
namespace Both
variable {B:Nat} {w w':World} {G H:Nat} {L L':GL} {M M':RL} {g g' k k':Gr}
theorem below (t:Both B w G L H M g k) (hb:Below w.heap.size w w'):Both B w' G L H M g k:=⟨t.a.below hb,t.b.below hb,t.ga,t.gb⟩
theorem stepA (t:Both B w G L H M g k) (hB:B≤w.heap.size) (hg:GAt w' G L' g') (hs:GStep w G L w' L'):Both B w' G L' H M g' k:=by
  refine ⟨hg,?_,fun x hx => ?_,t.gb⟩
  · have h1:=t.b.mono (Q':=fun x=>x ∉ gall G L∧x ∉ gall G L') fun x hx hq=>⟨hq,fun hc=>by
      rcases hs.sub x hc with q | q
      · exact hq q
      · omega⟩
    exact (h1.chgO hs.chg fun x _ hq=>hq.1).mono fun x _ hq=>hq.2
  · rcases hs.sub x hx with q | q
    · exact t.ga x q
    · omega
theorem stepB (t:Both B w G L H M g k) (hB:B≤w.heap.size) (hr:RGAt (fun x=>x ∉ gall G L) w' H M' k') (hs:RGStep w H M w' M'):Both B w' G L H M' g k' :=
  ⟨t.a.chgOut hs.chg fun x hx hc=>t.b.q x hc hx,hr,t.ga,fun x hx=>by
    rcases hs.sub x hx with q | q
    · exact t.gb x q
    · omega⟩
theorem new (t:Both B w G L H M g k):∀ x,w.heap.size≤x → x ∉ gall G L:=fun x hx hc=>by have:=t.a.gltAll x hc;omega
end Both
end Go.Proofs.YtnljdkglncmfaaaGreat
