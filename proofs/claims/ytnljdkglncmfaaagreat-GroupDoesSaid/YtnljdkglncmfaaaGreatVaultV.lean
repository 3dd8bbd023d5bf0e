/-
  Part VaultV of the proof.
-/
import Derived.Test.YtnljdkglncmfaaaGreatBn
import Derived.Test.YtnljdkglncmfaaaGreatFa
import Derived.Test.YtnljdkglncmfaaaGreatBc
import Derived.Test.YtnljdkglncmfaaaGreatBd
import Derived.Test.YtnljdkglncmfaaaGreatBa
namespace Go.Proofs.YtnljdkglncmfaaaGreat
open Go.RowKit
set_option linter.unusedVariables false
def Frm (base:Nat) (A:Option Addr) (n:Nat):Prop:=n≠0 → ∀ b o,A=some ⟨b,o,none⟩ → base≤b
theorem row_ne {w:World} {R:Nat} {A:Option Addr} {xs:List Value} (h:RowAt w A xs) (hR:xs≠[] → ∀ b o,A=some ⟨b,o,none⟩ → b≠R) (i:Nat) (v:Value):RowAt (w.setCell ⟨R,i,none⟩ v) A xs:=by
  rcases h with h | ⟨b,off,ha,hlt,hc⟩
  · exact .inl h
  · by_cases hx:xs=[]
    · exact .inl hx
    · refine .inr ⟨b,off,ha,by simpa [World.setCell] using hlt,fun j u hj => ?_⟩
      rw [← hc j u hj]
      have e:(w.setCell ⟨R,i,none⟩ v).heap[b]?=w.heap[b]?:=Below.heap_setCell _ _ _ _ (by simpa using hR hx b off ha)
      simp only [World.cell?,e]
theorem zCL {w W:World} {R:Nat} {A:Option Addr} {c:Nat} {es:List En} (h0:LogIn w A c es) (h:LogIn W A c es) (hR:w.heap.size≤R) (x y z:Value):LogIn (set3 W R x y z) A c es:=by
  have hf:ensV es≠[] → ∀ b o,A=some ⟨b,o,none⟩ → b≠R:=fun hx b o ha=>by
    rcases h0.row with h' | ⟨b',o',ha',hlt,_⟩
    · exact absurd h' hx
    · rw [ha] at ha';cases ha';omega
  exact ⟨row_ne (row_ne (row_ne h.row hf _ _) hf _ _) hf _ _,h.cap,h.none_,h.max⟩
theorem logIn_many {w:World} {A:Option Addr} {c:Nat} {es:List En} (h:LogIn w A c es) (n:Nat):LogIn (w.drewN n) A c es:=h.below (Below.many (zK w) n)
theorem set3_cell {w:World} {R F i:Nat} (hne:F≠R) (x y z:Value):(set3 w R x y z).cell? ⟨F,i,none⟩=w.cell? ⟨F,i,none⟩:=by
  have e:(set3 w R x y z).heap[F]?=w.heap[F]?:=by
    unfold set3
    rw [Below.heap_setCell _ _ _ _ (by simpa using hne),Below.heap_setCell _ _ _ _ (by simpa using hne),Below.heap_setCell _ _ _ _ (by simpa using hne)]
  simp only [World.cell?,e]
def RetSt (base:Nat) (s:St) (o:Option St) (w:World) (en:Ending) (w':World):Prop:=∃ A c,en=.returned (.tuple #[.agg #[.int .i64 (o.getD s).1,.int .i64 (o.getD s).2.1,.slice A (o.getD s).2.2.length c],.bool o.isSome])∧LogIn w' A c (o.getD s).2.2∧Frm base A (o.getD s).2.2.length∧Below w.heap.size w w'
set_option maxRecDepth 100000 in
set_option maxHeartbeats 12800000 in
theorem refStep_ent (base:Nat) (s:St) (A:Option Addr) (c:Nat) (x0 x1 x2 x3 x4 x5 x6 x7:Int) (d:Option Addr) (cd:Nat) (body:List UInt8) (w:World) (hl:LogIn w A c s.2.2) (hfr:Frm base A s.2.2.length) (hbs:base≤w.heap.size) (hok:StOk s)
    (hd:CellsB w d body) (hcap:body.length≤cd) (hz:d=none → body.length=0) (hlm:body.length≤1000000)
    (hun:zBD body=(0,[x0,x1,x2,x3,x4,x5,x6,x7],[])) :
    Calls Tryz.prog 137 #[.agg #[.int .i64 s.1,.int .i64 s.2.1,.slice A s.2.2.length c],.agg #[.int .i64 2,.slice d body.length cd]] w (RetSt base s (if x0=(s.2.2.length:Int)+1 then (if mayL 0 0 (s.2.2 ++ [((x1,x2,x3,x4,x5,x6,x7):En)])=true then some (s.1,s.2.1,s.2.2 ++ [((x1,x2,x3,x4,x5,x6,x7):En)]) else none) else none) w):=by
  have HU:Hid (∀ W,Below w.heap.size w W → Calls Tryz.prog 151 #[.slice d body.length cd] W (RetUn (zBD body) W)):=fun W h=>refUnpack_any d cd body W (hd.below h) hcap hz hlm
  obtain ⟨t0,v0,es⟩:=s
  simp only at hl hfr
  have h64:=(zAB hok.2).2.2.2.2.2.1
  simp only at h64
  have h64':(es.length:Int)≤64:=by omega
  rw [hun] at HU
  clear hd hcap hz hlm hun
  have hel:(es ++ [((x1,x2,x3,x4,x5,x6,x7):En)]).length=es.length+1:=by simp
  have HEL:=Lib.hid hel
  have HM:Hid (∀ W a c,LogIn W a c (es ++ [((x1,x2,x3,x4,x5,x6,x7):En)]) → Calls Tryz.prog 74 #[.agg #[.int .i64 0,.int .i64 0,.slice a (es.length+1) c]] W fun e w'=>e=.returned (.bool (mayL 0 0 (es ++ [((x1,x2,x3,x4,x5,x6,x7):En)])))∧Below W.heap.size W w'):=fun W a c h=>by
    have:=refMay_any 0 0 a c (es ++ [((x1,x2,x3,x4,x5,x6,x7):En)]) W h
    rwa [hel] at this
  have HIN:Hid (∀ (W:World) b a c,W.ownsRow b 42 7 (.slice a (es.length+1) c) (es.length+1) (ensV es ++ ensV [((x1,x2,x3,x4,x5,x6,x7):En)]) → LogIn W a c (es ++ [((x1,x2,x3,x4,x5,x6,x7):En)])):=fun W b a c h=>by
    rw [← zBP,← hel] at h
    exact LogIn.of_own h
  have HFL:Hid ((ensV es).length=es.length * 7):=zAQ es
  clear hel
  have hwr:=zS (x:=(es.length:Int)+1) (by omega) (by omega)
  have HX0:Hid (decide (x0=(es.length:Int)+1)=(x0 == (es.length:Int)+1)):=by rw [Hid,Bool.eq_iff_iff];simp
  obtain ⟨q,hq⟩:∃ q,q=(x0 == (es.length:Int)+1):=⟨_,rfl⟩
  have HRES:Hid ((if x0=(es.length:Int)+1 then (if mayL 0 0 (es ++ [((x1,x2,x3,x4,x5,x6,x7):En)])=true then some (t0,v0,es ++ [((x1,x2,x3,x4,x5,x6,x7):En)]) else none) else (none:Option St))=if (mayL 0 0 (es ++ [((x1,x2,x3,x4,x5,x6,x7):En)]) && q)=true then some (t0,v0,es ++ [((x1,x2,x3,x4,x5,x6,x7):En)]) else none):=by
    rw [Hid,hq]
    by_cases h:x0=(es.length:Int)+1 <;> cases mayL 0 0 (es ++ [((x1,x2,x3,x4,x5,x6,x7):En)]) <;> simp [h]
  simp only
  rw [HRES.out]
  clear HRES HX0
  have hqn:(x0 != (es.length:Int)+1) = !q:=by rw [hq];rfl
  clear hq
  generalize mayL 0 0 (es ++ [((x1,x2,x3,x4,x5,x6,x7):En)])=my at HM
  go_enter Tryz.func137,Tryz.ntmps137
  go_upto_region 12 with (go_at_call 151;obtain ⟨⟨gS,gF,gR⟩,hz3,hw3⟩:=alloc3 w (.cells #[.int .i64 t0,.int .i64 v0,.slice A es.length c] 91) (.cells #[.int .i64 2,.slice d body.length cd] 156) (.cells #[.int .i64 0,.int .i64 0,.slice none 0 0] 91);refine (HU.out _ hw3).mono ?_;rintro en w1 ⟨a1,c1,a2,c2,rfl,oi,ob,hb1⟩;simp only at oi ob;have hal:=zC w1 (.cells #[.slice a1 8 c1,.slice a2 0 c2] 153);have hb1x:=hb1.trans (hal.mono hb1.size);have hbw:=hw3.trans (hb1x.mono hw3.size);replace gS:=zA hb1x gS;replace gF:=zA hb1x gF;replace gR:=zA hb1x gR;have hL:=hl.below hbw;have gX:=zG w1 (.cells #[.slice a1 8 c1,.slice a2 0 c2] 153);have hci:=RowAt.below (RowAt.of_own oi) hal;have hz1:w.heap.size+3≤w1.heap.size:=(by have:=hb1.size;omega);obtain ⟨sc0,sc1,sc2,sf0,sf1,sf2,slt⟩:=box3 gS;obtain ⟨bc0,bc1,bf0,bf1,blt⟩:=box2 gF;obtain ⟨rc0,rc1,rc2,rf0,rf1,rf2,rlt⟩:=box3 gR;obtain ⟨xc0,xc1,xf0,xf1,xlt⟩:=box2 gX)
  obtain ⟨nb,noff,ha0,hnlt,nc0⟩:=CellsI.at hci (k:=0) (by simp)
  subst ha0
  obtain ⟨_,_,ha1,_,nc1⟩:=CellsI.at hci (k:=1) (by simp)
  cases ha1
  obtain ⟨_,_,ha1,_,nc2⟩:=CellsI.at hci (k:=2) (by simp)
  cases ha1
  obtain ⟨_,_,ha1,_,nc3⟩:=CellsI.at hci (k:=3) (by simp)
  cases ha1
  obtain ⟨_,_,ha1,_,nc4⟩:=CellsI.at hci (k:=4) (by simp)
  cases ha1
  obtain ⟨_,_,ha1,_,nc5⟩:=CellsI.at hci (k:=5) (by simp)
  cases ha1
  obtain ⟨_,_,ha1,_,nc6⟩:=CellsI.at hci (k:=6) (by simp)
  cases ha1
  obtain ⟨_,_,ha1,_,nc7⟩:=CellsI.at hci (k:=7) (by simp)
  cases ha1
  rw [Nat.add_zero] at nc0
  simp only [List.getElem_cons_zero,List.getElem_cons_succ] at nc0 nc1 nc2 nc3 nc4 nc5 nc6 nc7
  simp only [List.length_cons,List.length_nil,Nat.zero_add,Nat.reduceAdd] at *
  have hnb:w.heap.size+3≤nb:=Nat.le_trans (Nat.le_of_eq hz3.symm) (own_from oi (by simp) nb noff rfl)
  generalize (w1.alloc (.cells #[.slice (some ⟨nb,noff,none⟩) 8 c1,.slice a2 0 c2] 153))=W1 at *
  go_upto_region 13 with (at_builtin;refine zF rfl (.const (.slice none 0 0)) (.tmp 63) rfl zCX W1.heap.size (.slice none 0 0) 0 [] (by rfl) (World.ownsRow_nil _ _ _ _) A es.length c (ensV es) (by rfl) HFL.out hL.row (zCB _) (by unfold maxLen;omega) (by omega) (Nat.le_refl _) hL.none_ ?_;intro a7 c7 w7 hown7 hg7 hat7)
  simp only [Nat.zero_add,List.nil_append] at hown7 hat7 ⊢
  have hRl:w.heap.size+2<W1.heap.size:=zB gR
  have hb7:Below W1.heap.size W1 w7:=(zK W1).grown hg7 (Nat.le_refl _) (fun k hk=>by simp [Value.ownBlock] at hk)
  replace gR:=zA hb7 gR
  replace gS:=zA hb7 gS
  replace hL:=hL.below hb7
  replace hbw:=hbw.trans (hb7.mono hbw.size)
  replace nc0:=((bcell hb7).1 _ _ hnlt).trans nc0
  replace nc1:=((bcell hb7).1 _ _ hnlt).trans nc1
  replace nc2:=((bcell hb7).1 _ _ hnlt).trans nc2
  replace nc3:=((bcell hb7).1 _ _ hnlt).trans nc3
  replace nc4:=((bcell hb7).1 _ _ hnlt).trans nc4
  replace nc5:=((bcell hb7).1 _ _ hnlt).trans nc5
  replace nc6:=((bcell hb7).1 _ _ hnlt).trans nc6
  replace nc7:=((bcell hb7).1 _ _ hnlt).trans nc7
  have hnl7:=Nat.lt_of_lt_of_le hnlt hb7.size
  have hRow:RowAt (w7.drew.alloc (.cells #[.int .i64 x1,.int .i64 x2,.int .i64 x3,.int .i64 x4,.int .i64 x5,.int .i64 x6,.int .i64 x7] 42)) (some ⟨w7.heap.size,0,none⟩) (ensV [((x1,x2,x3,x4,x5,x6,x7):En)]):=RowAt.new w7.drew #[.int .i64 x1,.int .i64 x2,.int .i64 x3,.int .i64 x4,.int .i64 x5,.int .i64 x6,.int .i64 x7] 42
  have hAB:Below w7.heap.size w7 (w7.drew.alloc (.cells #[.int .i64 x1,.int .i64 x2,.int .i64 x3,.int .i64 x4,.int .i64 x5,.int .i64 x6,.int .i64 x7] 42)):=(zK w7).drew.alloc (zK w7).drew.size _
  have hnA:∀ j,j<W1.heap.size → (Value.slice a7 es.length c7).ownBlock≠some j:=fun j hj e=>by have:=(hown7.lt _ e).1;omega
  have hAs:=hAB.size
  go_region_held3 (fun Z=>Z.cell? ⟨nb,noff+1,none⟩=some (.int .i64 x1)∧Z.cell? ⟨nb,noff+2,none⟩=some (.int .i64 x2)∧Z.cell? ⟨nb,noff+3,none⟩=some (.int .i64 x3)∧Z.cell? ⟨nb,noff+4,none⟩=some (.int .i64 x4)∧Z.cell? ⟨nb,noff+5,none⟩=some (.int .i64 x5)∧Z.cell? ⟨nb,noff+6,none⟩=some (.int .i64 x6)∧Z.cell? ⟨nb,noff+7,none⟩=some (.int .i64 x7)) (first | exact ⟨nc1,nc2,nc3,nc4,nc5,nc6,nc7⟩ | exact ⟨nl1,nl2,nl3,nl4,nl5,nl6,nl7⟩ | go_keep) ((refine zAV rfl (.tmp 65) (.tmp 89) rfl zCX W1.heap.size (.slice a7 es.length c7) es.length (ensV es) (by rfl) (zD hown7 hAB) (some ⟨w7.heap.size,0,none⟩) 1 1 (ensV [((x1,x2,x3,x4,x5,x6,x7):En)]) (by rfl) (zAQ _) hRow (zCB _) (by unfold maxLen;omega) (by omega) (Nat.le_trans hb7.size hAs) (fun h=>by cases h) ?_;intro a9 c9 w9 hown9 hg9 hat9;have hw9:=Below.appended (hbw.trans (hAB.mono hbw.size)) (zD hown7 hAB) hg9 (Nat.le_trans hbw.size hAs) (by omega);have gR9:=zY hg9 (zA hAB gR) (hnA _ hRl);have gS9:=zY hg9 (zA hAB gS) (hnA _ (by omega));have hl9:=hl.below hw9;have hz9:=hw9.size;have nl1:w9.cell? ⟨nb,noff+1,none⟩=some (.int .i64 x1):=(World.grownBy.cell_far hg9 ⟨nb,noff+1,none⟩ (Nat.lt_of_lt_of_le hnl7 hAs) (hnA _ hnlt).symm).trans (((bcell hAB).1 _ _ hnl7).trans nc1);have nl2:w9.cell? ⟨nb,noff+2,none⟩=some (.int .i64 x2):=(World.grownBy.cell_far hg9 ⟨nb,noff+2,none⟩ (Nat.lt_of_lt_of_le hnl7 hAs) (hnA _ hnlt).symm).trans (((bcell hAB).1 _ _ hnl7).trans nc2);have nl3:w9.cell? ⟨nb,noff+3,none⟩=some (.int .i64 x3):=(World.grownBy.cell_far hg9 ⟨nb,noff+3,none⟩ (Nat.lt_of_lt_of_le hnl7 hAs) (hnA _ hnlt).symm).trans (((bcell hAB).1 _ _ hnl7).trans nc3);have nl4:w9.cell? ⟨nb,noff+4,none⟩=some (.int .i64 x4):=(World.grownBy.cell_far hg9 ⟨nb,noff+4,none⟩ (Nat.lt_of_lt_of_le hnl7 hAs) (hnA _ hnlt).symm).trans (((bcell hAB).1 _ _ hnl7).trans nc4);have nl5:w9.cell? ⟨nb,noff+5,none⟩=some (.int .i64 x5):=(World.grownBy.cell_far hg9 ⟨nb,noff+5,none⟩ (Nat.lt_of_lt_of_le hnl7 hAs) (hnA _ hnlt).symm).trans (((bcell hAB).1 _ _ hnl7).trans nc5);have nl6:w9.cell? ⟨nb,noff+6,none⟩=some (.int .i64 x6):=(World.grownBy.cell_far hg9 ⟨nb,noff+6,none⟩ (Nat.lt_of_lt_of_le hnl7 hAs) (hnA _ hnlt).symm).trans (((bcell hAB).1 _ _ hnl7).trans nc6);have nl7:w9.cell? ⟨nb,noff+7,none⟩=some (.int .i64 x7):=(World.grownBy.cell_far hg9 ⟨nb,noff+7,none⟩ (Nat.lt_of_lt_of_le hnl7 hAs) (hnA _ hnlt).symm).trans (((bcell hAB).1 _ _ hnl7).trans nc7);have nl0:w9.cell? ⟨nb,noff,none⟩=some (.int .i64 x0):=(World.grownBy.cell_far hg9 ⟨nb,noff,none⟩ (Nat.lt_of_lt_of_le hnl7 hAs) (hnA _ hnlt).symm).trans (((bcell hAB).1 _ _ hnl7).trans nc0)))
  have hnl9:nb<w9.heap.size:=block_lt_of_cell nl0
  obtain ⟨sc0,sc1,sc2,sf0,sf1,sf2,slt⟩:=box3 gS9
  obtain ⟨rc0,rc1,rc2,rf0,rf1,rf2,rlt⟩:=box3 gR9
  cases my with
  | false =>
    rw [if_neg (by simp)]
    go_wp2_with (go_at_call 74;refine (HM.out _ _ _ (HIN _ _ _ _ hown9)).mono ?_;rintro en w10 ⟨rfl,hb10⟩;have hw10:=hw9.trans (hb10.mono hw9.size);have hL2:=hl9.below hb10;have gR:=zA hb10 gR9;have gS10:=zA hb10 gS9;have own10:=zD hown9 hb10;have nm0:=((bcell hb10).1 _ _ hnl9).trans nl0;obtain ⟨sc0,sc1,sc2,sf0,sf1,sf2,slt⟩:=box3 gS10;obtain ⟨rc0,rc1,rc2,rf0,rf1,rf2,rlt⟩:=box3 gR)
    obtain ⟨e0,e1,e2,_⟩:=box3 (zZ gR (.int .i64 t0) (.int .i64 v0) (.slice A es.length c))
    refine bodyPost_ret (v:=.tuple #[.agg #[.int .i64 t0,.int .i64 v0,.slice A es.length c],.bool false]) (by simp [results,Tryz.results137,go_sem,e0,e1,e2]) rfl ?_
    exact ⟨A,c,rfl,zCL hl hL2 (by omega) _ _ _,hfr,zO hw10 (by omega) _ _ _⟩
  | true =>
    cases q with
    | false =>
      rw [if_neg (by simp)]
      go_wp2_with (go_at_call 74;refine (HM.out _ _ _ (HIN _ _ _ _ hown9)).mono ?_;rintro en w10 ⟨rfl,hb10⟩;have hw10:=hw9.trans (hb10.mono hw9.size);have hL2:=hl9.below hb10;have gR:=zA hb10 gR9;have gS10:=zA hb10 gS9;have own10:=zD hown9 hb10;have nm0:=((bcell hb10).1 _ _ hnl9).trans nl0;obtain ⟨sc0,sc1,sc2,sf0,sf1,sf2,slt⟩:=box3 gS10;obtain ⟨rc0,rc1,rc2,rf0,rf1,rf2,rlt⟩:=box3 gR)
      obtain ⟨e0,e1,e2,_⟩:=box3 (zZ gR (.int .i64 t0) (.int .i64 v0) (.slice A es.length c))
      refine bodyPost_ret (v:=.tuple #[.agg #[.int .i64 t0,.int .i64 v0,.slice A es.length c],.bool false]) (by simp [results,Tryz.results137,go_sem,e0,e1,e2]) rfl ?_
      exact ⟨A,c,rfl,zCL hl hL2 (by omega) _ _ _,hfr,zO hw10 (by omega) _ _ _⟩
    | true =>
      rw [if_pos (by rfl)]
      go_wp2_with (go_at_call 74;refine (HM.out _ _ _ (HIN _ _ _ _ hown9)).mono ?_;rintro en w10 ⟨rfl,hb10⟩;have hw10:=hw9.trans (hb10.mono hw9.size);have hL2:=hl9.below hb10;have gR:=zA hb10 gR9;have gS10:=zA hb10 gS9;have own10:=zD hown9 hb10;have nm0:=((bcell hb10).1 _ _ hnl9).trans nl0;obtain ⟨sc0,sc1,sc2,sf0,sf1,sf2,slt⟩:=box3 gS10;obtain ⟨rc0,rc1,rc2,rf0,rf1,rf2,rlt⟩:=box3 gR)
      obtain ⟨e0,e1,e2,_⟩:=box3 (zZ gR (.int .i64 t0) (.int .i64 v0) (.slice a9 (es.length+1) c9))
      refine bodyPost_ret (v:=.tuple #[.agg #[.int .i64 t0,.int .i64 v0,.slice a9 (es.length+1) c9],.bool true]) (by simp [results,Tryz.results137,go_sem,e0,e1,e2]) rfl ?_
      refine ⟨a9,c9,?_,HIN _ _ _ _ (zCH own10 hRl _ _ _),?_,zO hw10 (by omega) _ _ _⟩
      · simp only [Option.getD_some,HEL.out];rfl
      · intro _ b o hb
        have:=own_from own10 (by omega) b o hb
        omega
set_option maxRecDepth 100000 in
set_option maxHeartbeats 12800000 in
theorem refStep_left (base:Nat) (s:St) (A:Option Addr) (c:Nat) (x0:Int) (d:Option Addr) (cd:Nat) (body:List UInt8) (w:World) (hl:LogIn w A c s.2.2) (hfr:Frm base A s.2.2.length) (hbs:base≤w.heap.size) (hok:StOk s)
    (hd:CellsB w d body) (hcap:body.length≤cd) (hz:d=none → body.length=0) (hlm:body.length≤1000000)
    (hun:zBD body=(0,[x0],[])) (hx0:x0≤(s.2.2.length:Int)) :
    Calls Tryz.prog 137 #[.agg #[.int .i64 s.1,.int .i64 s.2.1,.slice A s.2.2.length c],.agg #[.int .i64 3,.slice d body.length cd]] w (RetSt base s (some (s.1,s.2.1,s.2.2.take x0.toNat)) w):=by
  have hnn:0≤x0:=((packE_zero (unpackP_back hun).1).2.2 x0 (by simp)).1
  have HU:Hid (∀ W,Below w.heap.size w W → Calls Tryz.prog 151 #[.slice d body.length cd] W (RetUn (zBD body) W)):=fun W h=>refUnpack_any d cd body W (hd.below h) hcap hz hlm
  obtain ⟨t0,v0,es⟩:=s
  simp only at hl hfr
  have h64:=(zAB hok.2).2.2.2.2.2.1
  simp only at h64
  have h64':(es.length:Int)≤64:=by omega
  simp only at hx0 ⊢
  rw [hun] at HU
  clear hd hcap hz hlm hun
  obtain ⟨j,rfl⟩:∃ j:Nat,x0=(j:Int):=⟨x0.toNat,by omega⟩
  have hj:j≤es.length:=by omega
  rw [Int.toNat_natCast]
  have htl:(es.take j).length=j:=by rw [List.length_take];omega
  have HTL:=Lib.hid htl
  have HEV:Hid ((ensV (es.take j)).length=j * 7):=by rw [Hid,zAQ,htl]
  have HROW:Hid (∀ W,LogIn W A c es → RowAt W A (ensV (es.take j))):=fun W h=>by rw [← zCR];exact h.row.take _
  have HIN:Hid (∀ (W:World) b a c,W.ownsRow b 42 7 (.slice a j c) j (ensV (es.take j)) → LogIn W a c (es.take j)):=fun W b a c h=>by
    rw [← htl] at h
    have:=LogIn.of_own (es:=es.take j) (by rwa [htl] at h ⊢)
    exact this
  clear htl
  have hsl:∀ W,(Instr.slice 37 (.slice A es.length c) none (some (.int .i64 (j:Int))) none).run Tryz.prog W=.ok (.slice A j c) W:=fun W=>zCN zCX A es.length c j (Nat.le_trans hj hl.cap) W
  have HSL:=Lib.hid hsl
  clear hsl
  go_enter Tryz.func137,Tryz.ntmps137
  go_wp2_with (go_at_call 151;obtain ⟨⟨gS,gF,gR⟩,hz3,hw3⟩:=alloc3 w (.cells #[.int .i64 t0,.int .i64 v0,.slice A es.length c] 91) (.cells #[.int .i64 3,.slice d body.length cd] 156) (.cells #[.int .i64 0,.int .i64 0,.slice none 0 0] 91);refine (HU.out _ hw3).mono ?_;rintro en w1 ⟨a1,c1,a2,c2,rfl,oi,ob,hb1⟩;simp only at oi ob;have hal:=zC w1 (.cells #[.slice a1 1 c1,.slice a2 0 c2] 153);have hb1x:=hb1.trans (hal.mono hb1.size);have hbw:=hw3.trans (hb1x.mono hw3.size);replace gS:=zA hb1x gS;replace gF:=zA hb1x gF;replace gR:=zA hb1x gR;have hL:=hl.below hbw;have gX:=zG w1 (.cells #[.slice a1 1 c1,.slice a2 0 c2] 153);have hci:=RowAt.below (RowAt.of_own oi) hal;have hz1:w.heap.size+3≤w1.heap.size:=(by have:=hb1.size;omega);obtain ⟨sc0,sc1,sc2,sf0,sf1,sf2,slt⟩:=box3 gS;obtain ⟨bc0,bc1,bf0,bf1,blt⟩:=box2 gF;obtain ⟨rc0,rc1,rc2,rf0,rf1,rf2,rlt⟩:=box3 gR;obtain ⟨xc0,xc1,xf0,xf1,xlt⟩:=box2 gX)
  obtain ⟨nb,noff,rfl,hnlt,nc0⟩:=CellsI.at hci (k:=0) (by simp)
  rw [Nat.add_zero] at nc0
  simp only [List.getElem_cons_zero] at nc0
  have hnb:w.heap.size+3≤nb:=Nat.le_trans (Nat.le_of_eq hz3.symm) (own_from oi (by simp) nb noff rfl)
  simp only [List.length_cons,List.length_nil,Nat.zero_add] at *
  generalize (w1.alloc (.cells #[.slice (some ⟨nb,noff,none⟩) 1 c1,.slice a2 0 c2] 153))=W1 at *
  go_quiet (fail)
  go_wp2
  replace gR:=zI gR nq
  replace gS:=zI gS nq
  replace hbw:=Below.many hbw nq
  replace hL:=logIn_many hL nq
  replace nc0:(W1.drewN nq).cell? ⟨nb,noff,none⟩=some (.int .i64 (j:Int)):=nc0
  replace hnlt:nb<(W1.drewN nq).heap.size:=hnlt
  generalize W1.drewN nq=W2 at *
  obtain ⟨sc0,sc1,sc2,sf0,sf1,sf2,slt⟩:=box3 gS
  obtain ⟨rc0,rc1,rc2,rf0,rf1,rf2,rlt⟩:=box3 gR
  have hsl:=HSL.out
  have hla:=hL.none_
  have hja:A=none → j=0:=fun h=>by have:=hla h;omega
  have hjm:j≤64:=by omega
  go_region_held3 (fun W=>W.cell? ⟨w.heap.size,0,none⟩=some (.int .i64 t0)∧W.cell? ⟨w.heap.size,1,none⟩=some (.int .i64 v0)∧W.cell? ⟨w.heap.size,2,none⟩=some (.slice A es.length c)∧W.cell? ⟨nb,noff,none⟩=some (.int .i64 (j:Int))∧(Instr.slice 37 (.slice A es.length c) none (some (.int .i64 (j:Int))) none).run Tryz.prog W=.ok (.slice A j c) W) (first | exact ⟨se0,se1,se2,ne0,hsl _⟩ | exact ⟨sd0,sd1,sd2,nd0,hsl _⟩ | exact ⟨sc0,sc1,sc2,nc0,hsl _⟩) ((refine zAV rfl (.const (.slice none 0 0)) (.tmp 133) rfl zCX W2.drew.heap.size (.slice none 0 0) 0 [] (by rfl) (World.ownsRow_nil _ _ _ _) A j c (ensV (es.take j)) (by rfl) HEV.out (HROW.out _ (hL.below (zK _).drew)) (zCB _) (by unfold maxLen;omega) (by omega) (Nat.le_refl _) hja ?_;intro a9 c9 w9 hown9 hg9 hat9;simp only [Nat.zero_add,List.nil_append] at hown9;rw [Nat.zero_add];have hb9:Below W2.heap.size W2 w9:=(zK W2).drew.grown hg9 (Nat.le_refl _) (fun k hk=>by simp [Value.ownBlock] at hk);have gS9:=zA hb9 gS;have gR9:=zA hb9 gR;have hw9:=hbw.trans (hb9.mono hbw.size);have nd0:=((bcell hb9).1 _ _ hnlt).trans nc0;obtain ⟨sd0,sd1,sd2,_,_,_,sdlt⟩:=box3 gS9;obtain ⟨rc0,rc1,rc2,rf0,rf1,rf2,rlt⟩:=box3 gR9;obtain ⟨se0,se1,se2,_⟩:=box3 (zBC gS9 (show w.heap.size≠w.heap.size+2 by omega) (.int .i64 t0) (.int .i64 v0) (.slice a9 j c9));have ne0:=(set3_cell (w:=w9) (R:=w.heap.size+2) (F:=nb) (i:=noff) (by omega) (.int .i64 t0) (.int .i64 v0) (.slice a9 j c9)).trans nd0))
  all_goals go_wp2
  obtain ⟨e0,e1,e2,_⟩:=box3 (zZ gR9 (.int .i64 t0) (.int .i64 v0) (.slice a9 j c9))
  refine bodyPost_ret (v:=.tuple #[.agg #[.int .i64 t0,.int .i64 v0,.slice a9 j c9],.bool true]) (by simp [results,Tryz.results137,go_sem,e0,e1,e2]) rfl ?_
  have hR2:w.heap.size+2<W2.drew.heap.size:=zB gR
  refine ⟨a9,c9,?_,HIN _ _ _ _ (zCH hown9 hR2 _ _ _),?_,zO hw9 (by omega) _ _ _⟩
  · simp only [Option.getD_some,HTL.out];rfl
  · intro hn b o hb
    have:=own_from hown9 (by simpa [HTL.out] using hn) b o hb
    have h2:W2.drew.heap.size=W2.heap.size:=rfl
    have:=hbw.size
    omega
set_option maxRecDepth 100000 in
set_option maxHeartbeats 12800000 in
theorem refStep_any (base:Nat) (s:St) (A:Option Addr) (c:Nat) (k:Int) (d:Option Addr) (cd:Nat) (body:List UInt8) (w:World) (hl:LogIn w A c s.2.2) (hfr:Frm base A s.2.2.length) (hbs:base≤w.heap.size) (hok:StOk s)
    (hd:CellsB w d body) (hcap:body.length≤cd) (hz:d=none → body.length=0) (hlm:body.length≤1000000) :
    Calls Tryz.prog 137 #[.agg #[.int .i64 s.1,.int .i64 s.2.1,.slice A s.2.2.length c],.agg #[.int .i64 k,.slice d body.length cd]] w (RetSt base s (stepV s (k,body)) w):=by
  have HU:Hid (∀ W,Below w.heap.size w W → Calls Tryz.prog 151 #[.slice d body.length cd] W (RetUn (zBD body) W)):=fun W h=>refUnpack_any d cd body W (hd.below h) hcap hz hlm
  obtain ⟨t0,v0,es⟩:=s
  simp only at hl hfr
  have h64:=(zAB hok.2).2.2.2.2.2.1
  simp only at h64
  have h64':(es.length:Int)≤64:=by omega
  unfold stepV
  simp only
  have hd0:=Lib.hid hd
  have hcap0:=Lib.hid hcap
  have hz0:=Lib.hid hz
  have hlm0:=Lib.hid hlm
  clear hd hcap hz hlm
  have hul:=unpackP_len body
  generalize hgu:zBD body=u at HU hul ⊢
  have hun:=Lib.hid hgu
  clear hgu
  obtain ⟨ue,n,x⟩:=u
  simp only at hul ⊢
  by_cases he:ue=0
  rotate_left 1
  · rw [if_neg (fun h=>he h.1)]
    have he1:(ue != 0)=true:=by simpa using he
    clear he
    go_enter Tryz.func137,Tryz.ntmps137
    go_wp2_with (go_at_call 151;obtain ⟨⟨gS,gF,gR⟩,hz3,hw3⟩:=alloc3 w (.cells #[.int .i64 t0,.int .i64 v0,.slice A es.length c] 91) (.cells #[.int .i64 k,.slice d body.length cd] 156) (.cells #[.int .i64 0,.int .i64 0,.slice none 0 0] 91);refine (HU.out _ hw3).mono ?_;rintro en w1 ⟨a1,c1,a2,c2,rfl,oi,ob,hb1⟩;simp only at oi ob;have hal:=zC w1 (.cells #[.slice a1 n.length c1,.slice a2 x.length c2] 153);have hb1x:=hb1.trans (hal.mono hb1.size);have hbw:=hw3.trans (hb1x.mono hw3.size);replace gS:=zA hb1x gS;replace gF:=zA hb1x gF;replace gR:=zA hb1x gR;have hL:=hl.below hbw;have gX:=zG w1 (.cells #[.slice a1 n.length c1,.slice a2 x.length c2] 153);have hci:=RowAt.below (RowAt.of_own oi) hal;have hz1:w.heap.size+3≤w1.heap.size:=(by have:=hb1.size;omega);obtain ⟨sc0,sc1,sc2,sf0,sf1,sf2,slt⟩:=box3 gS;obtain ⟨bc0,bc1,bf0,bf1,blt⟩:=box2 gF;obtain ⟨rc0,rc1,rc2,rf0,rf1,rf2,rlt⟩:=box3 gR;obtain ⟨xc0,xc1,xf0,xf1,xlt⟩:=box2 gX)
    obtain ⟨e0,e1,e2,_⟩:=box3 (zZ gR (.int .i64 t0) (.int .i64 v0) (.slice A es.length c))
    refine bodyPost_ret (v:=.tuple #[.agg #[.int .i64 t0,.int .i64 v0,.slice A es.length c],.bool false]) (by simp [results,Tryz.results137,go_sem,e0,e1,e2]) rfl ?_
    exact ⟨A,c,rfl,zCL hl hL (by omega) _ _ _,hfr,zO hbw (by omega) _ _ _⟩
  subst he
  by_cases hx:x.length=0
  rotate_left 1
  · rw [if_neg (fun h=>hx h.2)]
    have hx1:(0:Int)<(x.length:Int):=by omega
    have hx2:0<x.length:=by omega
    clear hx
    go_enter Tryz.func137,Tryz.ntmps137
    go_wp2_with (go_at_call 151;obtain ⟨⟨gS,gF,gR⟩,hz3,hw3⟩:=alloc3 w (.cells #[.int .i64 t0,.int .i64 v0,.slice A es.length c] 91) (.cells #[.int .i64 k,.slice d body.length cd] 156) (.cells #[.int .i64 0,.int .i64 0,.slice none 0 0] 91);refine (HU.out _ hw3).mono ?_;rintro en w1 ⟨a1,c1,a2,c2,rfl,oi,ob,hb1⟩;simp only at oi ob;have hal:=zC w1 (.cells #[.slice a1 n.length c1,.slice a2 x.length c2] 153);have hb1x:=hb1.trans (hal.mono hb1.size);have hbw:=hw3.trans (hb1x.mono hw3.size);replace gS:=zA hb1x gS;replace gF:=zA hb1x gF;replace gR:=zA hb1x gR;have hL:=hl.below hbw;have gX:=zG w1 (.cells #[.slice a1 n.length c1,.slice a2 x.length c2] 153);have hci:=RowAt.below (RowAt.of_own oi) hal;have hz1:w.heap.size+3≤w1.heap.size:=(by have:=hb1.size;omega);obtain ⟨sc0,sc1,sc2,sf0,sf1,sf2,slt⟩:=box3 gS;obtain ⟨bc0,bc1,bf0,bf1,blt⟩:=box2 gF;obtain ⟨rc0,rc1,rc2,rf0,rf1,rf2,rlt⟩:=box3 gR;obtain ⟨xc0,xc1,xf0,xf1,xlt⟩:=box2 gX)
    obtain ⟨e0,e1,e2,_⟩:=box3 (zZ gR (.int .i64 t0) (.int .i64 v0) (.slice A es.length c))
    refine bodyPost_ret (v:=.tuple #[.agg #[.int .i64 t0,.int .i64 v0,.slice A es.length c],.bool false]) (by simp [results,Tryz.results137,go_sem,e0,e1,e2]) rfl ?_
    exact ⟨A,c,rfl,zCL hl hL (by omega) _ _ _,hfr,zO hbw (by omega) _ _ _⟩
  rw [if_pos ⟨rfl,hx⟩]
  obtain rfl:=List.eq_nil_of_length_eq_zero hx
  clear hx
  unfold stepN
  simp only
  by_cases c1:k=1∧n.length=2
  · obtain ⟨rfl,hn⟩:=c1
    rw [if_pos ⟨rfl,hn⟩]
    obtain ⟨x0,x1,rfl⟩:=list_two hn
    clear hn
    have HM:Hid (∀ W,Calls Tryz.prog 73 #[zV x0 x1] W fun e w'=>e=.returned (.bool (mayV x0 x1))∧Below W.heap.size W w'):=fun W=>refMayV_any x0 x1 W
    show Calls _ _ _ _ (RetSt base (t0,v0,es) (if mayV x0 x1=true then some (x0,x1,es) else none) w)
    cases hmv:mayV x0 x1 with
    | false =>
      rw [hmv] at HM
      rw [if_neg (by decide)]
      clear hmv
      go_enter Tryz.func137,Tryz.ntmps137
      go_wp2_with (go_at_call 151;obtain ⟨⟨gS,gF,gR⟩,hz3,hw3⟩:=alloc3 w (.cells #[.int .i64 t0,.int .i64 v0,.slice A es.length c] 91) (.cells #[.int .i64 1,.slice d body.length cd] 156) (.cells #[.int .i64 0,.int .i64 0,.slice none 0 0] 91);refine (HU.out _ hw3).mono ?_;rintro en w1 ⟨a1,c1,a2,c2,rfl,oi,ob,hb1⟩;simp only at oi ob;have hal:=zC w1 (.cells #[.slice a1 2 c1,.slice a2 0 c2] 153);have hb1x:=hb1.trans (hal.mono hb1.size);have hbw:=hw3.trans (hb1x.mono hw3.size);replace gS:=zA hb1x gS;replace gF:=zA hb1x gF;replace gR:=zA hb1x gR;have hL:=hl.below hbw;have gX:=zG w1 (.cells #[.slice a1 2 c1,.slice a2 0 c2] 153);have hci:=RowAt.below (RowAt.of_own oi) hal;have hz1:w.heap.size+3≤w1.heap.size:=(by have:=hb1.size;omega);obtain ⟨sc0,sc1,sc2,sf0,sf1,sf2,slt⟩:=box3 gS;obtain ⟨bc0,bc1,bf0,bf1,blt⟩:=box2 gF;obtain ⟨rc0,rc1,rc2,rf0,rf1,rf2,rlt⟩:=box3 gR;obtain ⟨xc0,xc1,xf0,xf1,xlt⟩:=box2 gX)
      obtain ⟨nb,noff,ha1,hnlt,nc0⟩:=CellsI.at hci (k:=0) (by simp)
      subst ha1
      obtain ⟨nb',noff',ha2,hnlt',nc1⟩:=CellsI.at hci (k:=1) (by simp)
      cases ha2
      rw [Nat.add_zero] at nc0
      simp only [List.getElem_cons_zero,List.getElem_cons_succ] at nc0 nc1
      simp only [List.length_cons,List.length_nil,Nat.zero_add,Nat.reduceAdd] at *
      generalize (w1.alloc (.cells #[.slice (some ⟨nb,noff,none⟩) 2 c1,.slice a2 0 c2] 153))=W1 at *
      go_region_held3 (fun W=>W.cell? ⟨nb,noff,none⟩=some (.int .i64 x0)∧W.cell? ⟨nb,noff+1,none⟩=some (.int .i64 x1)) (first | exact ⟨nc0,nc1⟩ | go_keep) (fail)
      have hal2:Below W1.heap.size W1 ((W1.alloc (.cells #[.int .i64 x0,.int .i64 x1] 34)).drew):=(zC _ _).drew
      replace gR:=zA hal2 gR
      replace gS:=zA hal2 gS
      have gB:((W1.alloc (.cells #[.int .i64 x0,.int .i64 x1] 34)).drew).heap[W1.heap.size]?=some (.cells #[.int .i64 x0,.int .i64 x1] 34):=zG W1 (.cells #[.int .i64 x0,.int .i64 x1] 34)
      replace hL:=hL.below hal2
      replace hbw:=hbw.trans (hal2.mono hbw.size)
      obtain ⟨lc0,lc1,lf0,lf1,llt⟩:=box2 gB
      obtain ⟨sc0,sc1,sc2,sf0,sf1,sf2,slt⟩:=box3 gS
      obtain ⟨rc0,rc1,rc2,rf0,rf1,rf2,rlt⟩:=box3 gR
      go_wp2_with (go_at_call 73;refine (HM.out _).mono ?_;rintro en w3 ⟨rfl,hb3⟩;replace gR:=zA hb3 gR;replace gS:=zA hb3 gS;replace gB:=zA hb3 gB;replace hL:=hL.below hb3;replace hbw:=hbw.trans (hb3.mono hbw.size);obtain ⟨lc0,lc1,lf0,lf1,llt⟩:=box2 gB;obtain ⟨sc0,sc1,sc2,sf0,sf1,sf2,slt⟩:=box3 gS;obtain ⟨rc0,rc1,rc2,rf0,rf1,rf2,rlt⟩:=box3 gR)
      obtain ⟨e0,e1,e2,_⟩:=box3 (zZ gR (.int .i64 t0) (.int .i64 v0) (.slice A es.length c))
      refine bodyPost_ret (v:=.tuple #[.agg #[.int .i64 t0,.int .i64 v0,.slice A es.length c],.bool false]) (by simp [results,Tryz.results137,go_sem,e0,e1,e2]) rfl ?_
      exact ⟨A,c,rfl,zCL hl hL (by omega) _ _ _,hfr,zO hbw (by omega) _ _ _⟩
    | true =>
      rw [hmv] at HM
      rw [if_pos rfl]
      clear hmv
      go_enter Tryz.func137,Tryz.ntmps137
      go_wp2_with (go_at_call 151;obtain ⟨⟨gS,gF,gR⟩,hz3,hw3⟩:=alloc3 w (.cells #[.int .i64 t0,.int .i64 v0,.slice A es.length c] 91) (.cells #[.int .i64 1,.slice d body.length cd] 156) (.cells #[.int .i64 0,.int .i64 0,.slice none 0 0] 91);refine (HU.out _ hw3).mono ?_;rintro en w1 ⟨a1,c1,a2,c2,rfl,oi,ob,hb1⟩;simp only at oi ob;have hal:=zC w1 (.cells #[.slice a1 2 c1,.slice a2 0 c2] 153);have hb1x:=hb1.trans (hal.mono hb1.size);have hbw:=hw3.trans (hb1x.mono hw3.size);replace gS:=zA hb1x gS;replace gF:=zA hb1x gF;replace gR:=zA hb1x gR;have hL:=hl.below hbw;have gX:=zG w1 (.cells #[.slice a1 2 c1,.slice a2 0 c2] 153);have hci:=RowAt.below (RowAt.of_own oi) hal;have hz1:w.heap.size+3≤w1.heap.size:=(by have:=hb1.size;omega);obtain ⟨sc0,sc1,sc2,sf0,sf1,sf2,slt⟩:=box3 gS;obtain ⟨bc0,bc1,bf0,bf1,blt⟩:=box2 gF;obtain ⟨rc0,rc1,rc2,rf0,rf1,rf2,rlt⟩:=box3 gR;obtain ⟨xc0,xc1,xf0,xf1,xlt⟩:=box2 gX)
      obtain ⟨nb,noff,ha1,hnlt,nc0⟩:=CellsI.at hci (k:=0) (by simp)
      subst ha1
      obtain ⟨nb',noff',ha2,hnlt',nc1⟩:=CellsI.at hci (k:=1) (by simp)
      cases ha2
      rw [Nat.add_zero] at nc0
      simp only [List.getElem_cons_zero,List.getElem_cons_succ] at nc0 nc1
      simp only [List.length_cons,List.length_nil,Nat.zero_add,Nat.reduceAdd] at *
      generalize (w1.alloc (.cells #[.slice (some ⟨nb,noff,none⟩) 2 c1,.slice a2 0 c2] 153))=W1 at *
      go_region_held3 (fun W=>W.cell? ⟨nb,noff,none⟩=some (.int .i64 x0)∧W.cell? ⟨nb,noff+1,none⟩=some (.int .i64 x1)) (first | exact ⟨nc0,nc1⟩ | go_keep) (fail)
      have hal2:Below W1.heap.size W1 ((W1.alloc (.cells #[.int .i64 x0,.int .i64 x1] 34)).drew):=(zC _ _).drew
      replace gR:=zA hal2 gR
      replace gS:=zA hal2 gS
      have gB:((W1.alloc (.cells #[.int .i64 x0,.int .i64 x1] 34)).drew).heap[W1.heap.size]?=some (.cells #[.int .i64 x0,.int .i64 x1] 34):=zG W1 (.cells #[.int .i64 x0,.int .i64 x1] 34)
      replace hL:=hL.below hal2
      replace hbw:=hbw.trans (hal2.mono hbw.size)
      obtain ⟨lc0,lc1,lf0,lf1,llt⟩:=box2 gB
      obtain ⟨sc0,sc1,sc2,sf0,sf1,sf2,slt⟩:=box3 gS
      obtain ⟨rc0,rc1,rc2,rf0,rf1,rf2,rlt⟩:=box3 gR
      go_wp2_with (go_at_call 73;refine (HM.out _).mono ?_;rintro en w3 ⟨rfl,hb3⟩;replace gR:=zA hb3 gR;replace gS:=zA hb3 gS;replace gB:=zA hb3 gB;replace hL:=hL.below hb3;replace hbw:=hbw.trans (hb3.mono hbw.size);obtain ⟨lc0,lc1,lf0,lf1,llt⟩:=box2 gB;obtain ⟨sc0,sc1,sc2,sf0,sf1,sf2,slt⟩:=box3 gS;obtain ⟨rc0,rc1,rc2,rf0,rf1,rf2,rlt⟩:=box3 gR)
      obtain ⟨e0,e1,e2,_⟩:=box3 (zZ gR (.int .i64 x0) (.int .i64 x1) (.slice A es.length c))
      refine bodyPost_ret (v:=.tuple #[.agg #[.int .i64 x0,.int .i64 x1,.slice A es.length c],.bool true]) (by simp [results,Tryz.results137,go_sem,e0,e1,e2]) rfl ?_
      exact ⟨A,c,rfl,zCL hl hL (by omega) _ _ _,hfr,zO hbw (by omega) _ _ _⟩
  rw [if_neg c1]
  by_cases c2:k=2∧n.length=8∧n.getD 0 0=(es.length:Int)+1
  · obtain ⟨rfl,hn,hn0⟩:=c2
    rw [if_pos ⟨rfl,hn,hn0⟩]
    obtain ⟨x0,x1,x2,x3,x4,x5,x6,x7,rfl⟩:=list_eight hn
    have:=refStep_ent base (t0,v0,es) A c x0 x1 x2 x3 x4 x5 x6 x7 d cd body w hl hfr hbs hok hd0.out hcap0.out hz0.out hlm0.out hun.out
    rw [if_pos (show x0=(es.length:Int)+1 from hn0)] at this
    exact this
  rw [if_neg c2]
  by_cases c3:k=3∧n.length=1∧n.getD 0 0≤(es.length:Int)
  · obtain ⟨rfl,hn,hn0⟩:=c3
    rw [if_pos ⟨rfl,hn,hn0⟩]
    obtain ⟨x0,rfl⟩:=list_one hn
    exact refStep_left base (t0,v0,es) A c x0 d cd body w hl hfr hbs hok hd0.out hcap0.out hz0.out hlm0.out hun.out hn0
  rw [if_neg c3]
  -- none of them
  by_cases k1:k=1
  · subst k1
    have hn2:((n.length:Int) == 2)=false:=by rw [beq_eq_false_iff_ne];omega
    clear c1 c2 c3
    go_enter Tryz.func137,Tryz.ntmps137
    go_wp2_with (go_at_call 151;obtain ⟨⟨gS,gF,gR⟩,hz3,hw3⟩:=alloc3 w (.cells #[.int .i64 t0,.int .i64 v0,.slice A es.length c] 91) (.cells #[.int .i64 1,.slice d body.length cd] 156) (.cells #[.int .i64 0,.int .i64 0,.slice none 0 0] 91);refine (HU.out _ hw3).mono ?_;rintro en w1 ⟨a1,c1,a2,c2,rfl,oi,ob,hb1⟩;simp only at oi ob;have hal:=zC w1 (.cells #[.slice a1 n.length c1,.slice a2 0 c2] 153);have hb1x:=hb1.trans (hal.mono hb1.size);have hbw:=hw3.trans (hb1x.mono hw3.size);replace gS:=zA hb1x gS;replace gF:=zA hb1x gF;replace gR:=zA hb1x gR;have hL:=hl.below hbw;have gX:=zG w1 (.cells #[.slice a1 n.length c1,.slice a2 0 c2] 153);have hci:=RowAt.below (RowAt.of_own oi) hal;have hz1:w.heap.size+3≤w1.heap.size:=(by have:=hb1.size;omega);obtain ⟨sc0,sc1,sc2,sf0,sf1,sf2,slt⟩:=box3 gS;obtain ⟨bc0,bc1,bf0,bf1,blt⟩:=box2 gF;obtain ⟨rc0,rc1,rc2,rf0,rf1,rf2,rlt⟩:=box3 gR;obtain ⟨xc0,xc1,xf0,xf1,xlt⟩:=box2 gX)
    go_quiet (fail)
    go_wp2
    replace gR:=zI gR nq
    replace hbw:=Below.many hbw nq
    replace hL:=logIn_many hL nq
    obtain ⟨e0,e1,e2,_⟩:=box3 (zZ gR (.int .i64 t0) (.int .i64 v0) (.slice A es.length c))
    refine bodyPost_ret (v:=.tuple #[.agg #[.int .i64 t0,.int .i64 v0,.slice A es.length c],.bool false]) (by simp [results,Tryz.results137,go_sem,e0,e1,e2]) rfl ?_
    exact ⟨A,c,rfl,zCL hl hL (by omega) _ _ _,hfr,zO hbw (by omega) _ _ _⟩
  have k1':(k == 1)=false:=by rw [beq_eq_false_iff_ne];exact k1
  by_cases k2:k=2
  · subst k2
    by_cases hn8:n.length=8
    · obtain ⟨x0,x1,x2,x3,x4,x5,x6,x7,rfl⟩:=list_eight hn8
      have:=refStep_ent base (t0,v0,es) A c x0 x1 x2 x3 x4 x5 x6 x7 d cd body w hl hfr hbs hok hd0.out hcap0.out hz0.out hlm0.out hun.out
      rw [if_neg (show ¬ x0=(es.length:Int)+1 from fun h=>c2 ⟨rfl,rfl,h⟩)] at this
      exact this
    · have hn8':((n.length:Int) == 8)=false:=by rw [beq_eq_false_iff_ne];omega
      clear c1 c2 c3 hn8 k1
      go_enter Tryz.func137,Tryz.ntmps137
      go_wp2_with (go_at_call 151;obtain ⟨⟨gS,gF,gR⟩,hz3,hw3⟩:=alloc3 w (.cells #[.int .i64 t0,.int .i64 v0,.slice A es.length c] 91) (.cells #[.int .i64 2,.slice d body.length cd] 156) (.cells #[.int .i64 0,.int .i64 0,.slice none 0 0] 91);refine (HU.out _ hw3).mono ?_;rintro en w1 ⟨a1,c1,a2,c2,rfl,oi,ob,hb1⟩;simp only at oi ob;have hal:=zC w1 (.cells #[.slice a1 n.length c1,.slice a2 0 c2] 153);have hb1x:=hb1.trans (hal.mono hb1.size);have hbw:=hw3.trans (hb1x.mono hw3.size);replace gS:=zA hb1x gS;replace gF:=zA hb1x gF;replace gR:=zA hb1x gR;have hL:=hl.below hbw;have gX:=zG w1 (.cells #[.slice a1 n.length c1,.slice a2 0 c2] 153);have hci:=RowAt.below (RowAt.of_own oi) hal;have hz1:w.heap.size+3≤w1.heap.size:=(by have:=hb1.size;omega);obtain ⟨sc0,sc1,sc2,sf0,sf1,sf2,slt⟩:=box3 gS;obtain ⟨bc0,bc1,bf0,bf1,blt⟩:=box2 gF;obtain ⟨rc0,rc1,rc2,rf0,rf1,rf2,rlt⟩:=box3 gR;obtain ⟨xc0,xc1,xf0,xf1,xlt⟩:=box2 gX)
      go_quiet (fail)
      go_wp2
      replace gR:=zI gR nq
      replace hbw:=Below.many hbw nq
      replace hL:=logIn_many hL nq
      obtain ⟨e0,e1,e2,_⟩:=box3 (zZ gR (.int .i64 t0) (.int .i64 v0) (.slice A es.length c))
      refine bodyPost_ret (v:=.tuple #[.agg #[.int .i64 t0,.int .i64 v0,.slice A es.length c],.bool false]) (by simp [results,Tryz.results137,go_sem,e0,e1,e2]) rfl ?_
      exact ⟨A,c,rfl,zCL hl hL (by omega) _ _ _,hfr,zO hbw (by omega) _ _ _⟩
  have k2':(k == 2)=false:=by rw [beq_eq_false_iff_ne];exact k2
  by_cases k3:k=3
  · subst k3
    by_cases hn1:n.length=1
    · obtain ⟨x0,rfl⟩:=list_one hn1
      have hx0:(es.length:Int)<x0:=by
        rcases Int.lt_or_le (es.length:Int) x0 with h | h
        · exact h
        · exact (c3 ⟨rfl,rfl,h⟩).elim
      clear c1 c2 c3 hn1 k1 k2
      go_enter Tryz.func137,Tryz.ntmps137
      go_wp2_with (go_at_call 151;obtain ⟨⟨gS,gF,gR⟩,hz3,hw3⟩:=alloc3 w (.cells #[.int .i64 t0,.int .i64 v0,.slice A es.length c] 91) (.cells #[.int .i64 3,.slice d body.length cd] 156) (.cells #[.int .i64 0,.int .i64 0,.slice none 0 0] 91);refine (HU.out _ hw3).mono ?_;rintro en w1 ⟨a1,c1,a2,c2,rfl,oi,ob,hb1⟩;simp only at oi ob;have hal:=zC w1 (.cells #[.slice a1 1 c1,.slice a2 0 c2] 153);have hb1x:=hb1.trans (hal.mono hb1.size);have hbw:=hw3.trans (hb1x.mono hw3.size);replace gS:=zA hb1x gS;replace gF:=zA hb1x gF;replace gR:=zA hb1x gR;have hL:=hl.below hbw;have gX:=zG w1 (.cells #[.slice a1 1 c1,.slice a2 0 c2] 153);have hci:=RowAt.below (RowAt.of_own oi) hal;have hz1:w.heap.size+3≤w1.heap.size:=(by have:=hb1.size;omega);obtain ⟨sc0,sc1,sc2,sf0,sf1,sf2,slt⟩:=box3 gS;obtain ⟨bc0,bc1,bf0,bf1,blt⟩:=box2 gF;obtain ⟨rc0,rc1,rc2,rf0,rf1,rf2,rlt⟩:=box3 gR;obtain ⟨xc0,xc1,xf0,xf1,xlt⟩:=box2 gX)
      obtain ⟨nb,noff,rfl,hnlt,nc0⟩:=CellsI.at hci (k:=0) (by simp)
      rw [Nat.add_zero] at nc0
      simp only [List.getElem_cons_zero] at nc0
      go_quiet (fail)
      go_wp2
      replace gR:=zI gR nq
      replace hbw:=Below.many hbw nq
      replace hL:=logIn_many hL nq
      obtain ⟨e0,e1,e2,_⟩:=box3 (zZ gR (.int .i64 t0) (.int .i64 v0) (.slice A es.length c))
      refine bodyPost_ret (v:=.tuple #[.agg #[.int .i64 t0,.int .i64 v0,.slice A es.length c],.bool false]) (by simp [results,Tryz.results137,go_sem,e0,e1,e2]) rfl ?_
      exact ⟨A,c,rfl,zCL hl hL (by omega) _ _ _,hfr,zO hbw (by omega) _ _ _⟩
    · have hn1':((n.length:Int) == 1)=false:=by rw [beq_eq_false_iff_ne];omega
      clear c1 c2 c3 hn1 k1 k2
      go_enter Tryz.func137,Tryz.ntmps137
      go_wp2_with (go_at_call 151;obtain ⟨⟨gS,gF,gR⟩,hz3,hw3⟩:=alloc3 w (.cells #[.int .i64 t0,.int .i64 v0,.slice A es.length c] 91) (.cells #[.int .i64 3,.slice d body.length cd] 156) (.cells #[.int .i64 0,.int .i64 0,.slice none 0 0] 91);refine (HU.out _ hw3).mono ?_;rintro en w1 ⟨a1,c1,a2,c2,rfl,oi,ob,hb1⟩;simp only at oi ob;have hal:=zC w1 (.cells #[.slice a1 n.length c1,.slice a2 0 c2] 153);have hb1x:=hb1.trans (hal.mono hb1.size);have hbw:=hw3.trans (hb1x.mono hw3.size);replace gS:=zA hb1x gS;replace gF:=zA hb1x gF;replace gR:=zA hb1x gR;have hL:=hl.below hbw;have gX:=zG w1 (.cells #[.slice a1 n.length c1,.slice a2 0 c2] 153);have hci:=RowAt.below (RowAt.of_own oi) hal;have hz1:w.heap.size+3≤w1.heap.size:=(by have:=hb1.size;omega);obtain ⟨sc0,sc1,sc2,sf0,sf1,sf2,slt⟩:=box3 gS;obtain ⟨bc0,bc1,bf0,bf1,blt⟩:=box2 gF;obtain ⟨rc0,rc1,rc2,rf0,rf1,rf2,rlt⟩:=box3 gR;obtain ⟨xc0,xc1,xf0,xf1,xlt⟩:=box2 gX)
      go_quiet (fail)
      go_wp2
      replace gR:=zI gR nq
      replace hbw:=Below.many hbw nq
      replace hL:=logIn_many hL nq
      obtain ⟨e0,e1,e2,_⟩:=box3 (zZ gR (.int .i64 t0) (.int .i64 v0) (.slice A es.length c))
      refine bodyPost_ret (v:=.tuple #[.agg #[.int .i64 t0,.int .i64 v0,.slice A es.length c],.bool false]) (by simp [results,Tryz.results137,go_sem,e0,e1,e2]) rfl ?_
      exact ⟨A,c,rfl,zCL hl hL (by omega) _ _ _,hfr,zO hbw (by omega) _ _ _⟩
  have k3':(k == 3)=false:=by rw [beq_eq_false_iff_ne];exact k3
  clear c1 c2 c3 k1 k2 k3
  go_enter Tryz.func137,Tryz.ntmps137
  go_wp2_with (go_at_call 151;obtain ⟨⟨gS,gF,gR⟩,hz3,hw3⟩:=alloc3 w (.cells #[.int .i64 t0,.int .i64 v0,.slice A es.length c] 91) (.cells #[.int .i64 k,.slice d body.length cd] 156) (.cells #[.int .i64 0,.int .i64 0,.slice none 0 0] 91);refine (HU.out _ hw3).mono ?_;rintro en w1 ⟨a1,c1,a2,c2,rfl,oi,ob,hb1⟩;simp only at oi ob;have hal:=zC w1 (.cells #[.slice a1 n.length c1,.slice a2 0 c2] 153);have hb1x:=hb1.trans (hal.mono hb1.size);have hbw:=hw3.trans (hb1x.mono hw3.size);replace gS:=zA hb1x gS;replace gF:=zA hb1x gF;replace gR:=zA hb1x gR;have hL:=hl.below hbw;have gX:=zG w1 (.cells #[.slice a1 n.length c1,.slice a2 0 c2] 153);have hci:=RowAt.below (RowAt.of_own oi) hal;have hz1:w.heap.size+3≤w1.heap.size:=(by have:=hb1.size;omega);obtain ⟨sc0,sc1,sc2,sf0,sf1,sf2,slt⟩:=box3 gS;obtain ⟨bc0,bc1,bf0,bf1,blt⟩:=box2 gF;obtain ⟨rc0,rc1,rc2,rf0,rf1,rf2,rlt⟩:=box3 gR;obtain ⟨xc0,xc1,xf0,xf1,xlt⟩:=box2 gX)
  go_quiet (fail)
  go_wp2
  replace gR:=zI gR nq
  replace hbw:=Below.many hbw nq
  replace hL:=logIn_many hL nq
  obtain ⟨e0,e1,e2,_⟩:=box3 (zZ gR (.int .i64 t0) (.int .i64 v0) (.slice A es.length c))
  refine bodyPost_ret (v:=.tuple #[.agg #[.int .i64 t0,.int .i64 v0,.slice A es.length c],.bool false]) (by simp [results,Tryz.results137,go_sem,e0,e1,e2]) rfl ?_
  exact ⟨A,c,rfl,zCL hl hL (by omega) _ _ _,hfr,zO hbw (by omega) _ _ _⟩
end Go.Proofs.YtnljdkglncmfaaaGreat
