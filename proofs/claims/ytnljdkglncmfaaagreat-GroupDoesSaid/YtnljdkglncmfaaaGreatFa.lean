/-
  Part Fa of the proof.
-/
import Derived.Test.YtnljdkglncmfaaaGreatBm
import Derived.Deep.RegionLaw
namespace Go.Proofs.YtnljdkglncmfaaaGreat
open Go.RowKit
set_option linter.unusedVariables false
set_option maxHeartbeats 400000 in
theorem cloneB_any (a:Option Addr) (cap:Nat) (bs:List UInt8) (w:World) (hb:CellsB w a bs) (hz:a=none → bs.length=0) (hl:bs.length≤1000000) :
    Calls Tryz.prog 104 #[.slice a bs.length cap] w (zAZ 5 1 bs.length (bs.map zX) w):=by
  rcases a with _ | ad
  · obtain rfl:=List.eq_nil_of_length_eq_zero (hz rfl)
    have hnil:∀ w,(binOp .eql 89 (.slice none 0 cap) (.slice none 0 0)).run Tryz.prog w=.ok (.bool true) w:=fun w=>Lib.run_eql_slice_nil (P:=Tryz.prog) w 89 5 none 0 cap 0 0 Tryz.underlying89
    clear hz hb hl
    go_enter Tryz.func104,Tryz.ntmps104
    go_wp2
    go_ret
    exact ⟨none,0,rfl,World.ownsRow_nil _ _ _ _,Below.refl _ _⟩
  · clear hz
    have hnil:∀ w,(binOp .eql 89 (.slice (some ad) bs.length cap) (.slice none 0 0)).run Tryz.prog w=.ok (.bool false) w:=fun w=>Lib.run_eql_slice_nil (P:=Tryz.prog) w 89 5 (some ad) bs.length cap 0 0 Tryz.underlying89
    go_enter Tryz.func104,Tryz.ntmps104
    go_wp2_with (at_builtin;refine zF rfl (.tmp 5) (.tmp 6) rfl elemB w.heap.size _ 0 [] (by rfl) (World.ownsRow_lit w #[] 0 (Nat.le_refl _) (by unfold maxLen;omega) (by rfl)) _ _ _ (bs.map zX) (by rfl) (by simp) (RowAt.alloc hb _) (zAS _) (by unfold maxLen;omega) (by omega) (by simp) (by simp) ?_;intro a' c' w1 hown hg hat)
    simp only [Nat.zero_add,List.nil_append] at hown ⊢
    have hbw:Below w.heap.size w w1:=Below.appended ((Below.refl _ _).alloc (Nat.le_refl _) _) (World.ownsRow_lit (e:=5) (size:=1) w #[] 0 (Nat.le_refl _) (by unfold maxLen;omega) (by rfl)) hg (by simp) (Nat.le_refl _)
    go_wp2
    go_ret
    exact ⟨a',c',rfl,hown,hbw⟩
theorem valB_two {bs:List UInt8} {p:Nat} (h:p+2≤bs.length):valB ((bs.drop p).take 2)=szP bs p:=by
  rw [List.drop_eq_getElem_cons (show p<bs.length by omega),List.take_succ_cons,List.drop_eq_getElem_cons (show p+1<bs.length by omega),List.take_succ_cons,List.take_zero]
  simp [valB,szP,List.getD_eq_getElem?_getD,List.getElem?_eq_getElem (show p<bs.length by omega),List.getElem?_eq_getElem (show p+1<bs.length by omega)]
def RetCut (r:Int × List Int × List UInt8 × Nat) (w:World) (en:Ending) (w':World):Prop :=
  ∃ a1 c1 a2 c2,en=.returned (.tuple #[.agg #[.slice a1 r.2.1.length c1,.slice a2 r.2.2.1.length c2],.int .i64 r.2.2.2,.int .i64 r.1])∧w'.ownsRow w.heap.size 3 1 (.slice a1 r.2.1.length c1) r.2.1.length (r.2.1.map intV)∧w'.ownsRow w.heap.size 5 1 (.slice a2 r.2.2.1.length c2) r.2.2.1.length (r.2.2.1.map zX)∧Below w.heap.size w w'
theorem RetCut.none (e:Int) {w w':World} {en:Ending} (h:en=.returned (.tuple #[.agg #[.slice Option.none 0 0,.slice Option.none 0 0],.int .i64 0,.int .i64 e])) (hb:Below w.heap.size w w'):RetCut (e,[],[],0) w en w':=⟨Option.none,0,Option.none,0,h,World.ownsRow_nil _ _ _ _,World.ownsRow_nil _ _ _ _,hb⟩
def CutInv (a : Option Addr) (cap : Nat) (bs : List UInt8) (T : Int × List Int × Nat) (w : World) (a' : Act) (wr : World) : Prop :=
  ∃ (left p : Nat) (e : Int) (acc : List Int) (aN : Option Addr) (cN : Nat) (u : Nat → Value), p ≤ bs.length ∧ acc.length + left ≤ 255 ∧ (e = 0 → numsA bs left p acc = T) ∧ (e ≠ 0 → T = (e, [], 0)) ∧
    wr.heap[w.heap.size]?=some (.cells #[.slice none 0 0,.slice none 0 0] 153)∧wr.heap[w.heap.size+1]?=some (rdC a bs.length cap p e)∧wr.heap[w.heap.size+2]?=some (.cells #[.slice aN acc.length cN,.slice none 0 0] 153)∧wr.ownsRow (w.heap.size+3) 3 1 (.slice aN acc.length cN) acc.length (acc.map intV)∧Below w.heap.size w wr ∧
    a'={ tmps:=#[.slice a bs.length cap,u 1,.pointer (some ⟨w.heap.size,0,none⟩),.int .i64 0,.int .i64 0,.pointer (some ⟨w.heap.size+1,0,none⟩),.pointer (some ⟨w.heap.size+2,0,none⟩),.int .i64 (left:Int),u 8,u 9,u 10,u 11,u 12,u 13,u 14,u 15,u 16,u 17,u 18,u 19,u 20,u 21,u 22,u 23,u 24,u 25,u 26,u 27,u 28,u 29,u 30,u 31,u 32,u 33,u 34,u 35,u 36,u 37,u 38,u 39,u 40,u 41,u 42,u 43,u 44,u 45,u 46,u 47,u 48],defers:=[] }
theorem CutInv.mk {a:Option Addr} {cap:Nat} {bs:List UInt8} {T:Int × List Int × Nat} {w:World} {a':Act} {wr:World} {left p:Nat} {e:Int} {acc:List Int} {aN:Option Addr} {cN:Nat}
    (h1:p≤bs.length) (h2:acc.length+left≤255) (h3:(e=0 → numsA bs left p acc=T)) (h4:(e≠0 → T=(e,[],0))) (h5:wr.heap[w.heap.size]?=some (.cells #[.slice none 0 0,.slice none 0 0] 153)) (h6:wr.heap[w.heap.size+1]?=some (rdC a bs.length cap p e)) (h7:wr.heap[w.heap.size+2]?=some (.cells #[.slice aN acc.length cN,.slice none 0 0] 153)) (h8:wr.ownsRow (w.heap.size+3) 3 1 (.slice aN acc.length cN) acc.length (acc.map intV)) (h9:Below w.heap.size w wr)
    (hz:a'={ tmps:=#[.slice a bs.length cap,a'.tmps.getD 1 undef,.pointer (some ⟨w.heap.size,0,none⟩),.int .i64 0,.int .i64 0,.pointer (some ⟨w.heap.size+1,0,none⟩),.pointer (some ⟨w.heap.size+2,0,none⟩),.int .i64 (left:Int),a'.tmps.getD 8 undef,a'.tmps.getD 9 undef,a'.tmps.getD 10 undef,a'.tmps.getD 11 undef,a'.tmps.getD 12 undef,a'.tmps.getD 13 undef,a'.tmps.getD 14 undef,a'.tmps.getD 15 undef,a'.tmps.getD 16 undef,a'.tmps.getD 17 undef,a'.tmps.getD 18 undef,a'.tmps.getD 19 undef,a'.tmps.getD 20 undef,a'.tmps.getD 21 undef,a'.tmps.getD 22 undef,a'.tmps.getD 23 undef,a'.tmps.getD 24 undef,a'.tmps.getD 25 undef,a'.tmps.getD 26 undef,a'.tmps.getD 27 undef,a'.tmps.getD 28 undef,a'.tmps.getD 29 undef,a'.tmps.getD 30 undef,a'.tmps.getD 31 undef,a'.tmps.getD 32 undef,a'.tmps.getD 33 undef,a'.tmps.getD 34 undef,a'.tmps.getD 35 undef,a'.tmps.getD 36 undef,a'.tmps.getD 37 undef,a'.tmps.getD 38 undef,a'.tmps.getD 39 undef,a'.tmps.getD 40 undef,a'.tmps.getD 41 undef,a'.tmps.getD 42 undef,a'.tmps.getD 43 undef,a'.tmps.getD 44 undef,a'.tmps.getD 45 undef,a'.tmps.getD 46 undef,a'.tmps.getD 47 undef,a'.tmps.getD 48 undef],defers:=[] }):CutInv a cap bs T w a' wr :=
  ⟨left,p,e,acc,aN,cN,fun k=>a'.tmps.getD k undef,h1,h2,h3,h4,h5,h6,h7,h8,h9,hz⟩
set_option maxRecDepth 100000 in
set_option maxHeartbeats 12800000 in
theorem cut_any (a : Option Addr) (cap : Nat) (bs : List UInt8) (w : World) (hb : CellsB w a bs) (hcap : bs.length ≤ cap) (hz : a = none → bs.length = 0) (hlm : bs.length ≤ 1000000) :
    Calls Tryz.prog 158 #[.slice a bs.length cap] w (RetCut (cutP bs) w):=by
  obtain ⟨T,hT,hTN⟩:∃ T:Int × List Int × Nat,cutP bs=(if T.1=0 then tailP bs T.2.1 T.2.2 else (T.1,[],[],0))∧(bs.length=0 → T=(3,[],0))∧(0<bs.length → numsA bs (bs.getD 0 0).toNat 1 []=T):=by
    by_cases h0:bs.length=0
    · exact ⟨(3,[],0),by unfold cutP;rw [if_pos h0];rfl,fun _=>rfl,fun h=>by omega⟩
    · exact ⟨numsA bs (bs.getD 0 0).toNat 1 [],by unfold cutP;rw [if_neg h0],fun h=>(h0 h).elim,fun _=>rfl⟩
  have HC:=Lib.hid hT
  have HT:=Lib.hid hTN
  have HB:=Lib.hid hb
  have hlm':(bs.length:Int)≤1000000:=by omega
  clear hT hTN hb
  go_enter Tryz.func158,Tryz.ntmps158
  have HCl:Hid (∀ W,Calls Tryz.prog 104 #[.slice none 0 0] W (zAZ 5 1 0 [] W)):=fun W=>cloneB_any none 0 [] W (RowAt.nil) (fun _=>rfl) (by simp)
  go_wp2
  refine scope_loop 0 (CutInv a cap bs T w) (fun a' _=>match a'.tmps.getD 7 undef with | .int _ n=>n.toNat | _=>0) rfl ?_ ?_
  · rintro a' wr ⟨left,p,e,acc,aN,cN,u,hp,hal,hT0,hT1,g0,g1,g2,hown,hw0,rfl⟩
    obtain ⟨xc0,xc1,xf0,xf1,xlt⟩:=box2 g0
    obtain ⟨rc0,rc1,rc2,rf0,rf1,rf2,rlt⟩:=box3 g1
    obtain ⟨fc0,fc1,ff0,ff1,flt⟩:=box2 g2
    have hsz:=hw0.size
    by_cases hgo:0<left∧e=0
    · obtain ⟨hl,rfl⟩:=hgo
      have hT:=hT0 rfl
      clear hT0 hT1
      obtain ⟨m,rfl⟩:∃ m,left=m+1:=⟨left - 1,by omega⟩
      have HF:Hid (∀ W,Below w.heap.size w W → W.heap[w.heap.size+1]?=some (rdC a bs.length cap p 0) → Calls Tryz.prog 167 #[.pointer (some ⟨w.heap.size+1,0,none⟩)] W (RetField (w.heap.size+1) a bs.length cap p (numP (bs.drop p)) W)):=fun W h g=>field_any (w.heap.size+1) a bs cap p hp hlm hcap w W HB.out h (by omega) g
      have HN:Hid ((numP (bs.drop p)).1=0 → numsA bs m (p+(numP (bs.drop p)).2.2) (acc ++ [((numP (bs.drop p)).2.1:Int)])=T):=fun h=>by rw [numsA_go h] at hT;exact hT
      have HS:Hid ((numP (bs.drop p)).1≠0 → T=((numP (bs.drop p)).1,[],0)):=fun h=>by rw [numsA_stop h] at hT;exact hT.symm
      clear hT
      generalize numP (bs.drop p)=r at HF HN HS
      obtain ⟨re,rv,rn⟩:=r
      simp only at HN HS
      have hm0:(0:Int)<(m:Int)+1:=by omega
      have hacc:acc.length≤255:=by omega
      have hF3:w.heap.size+3≤wr.heap.size:=flt
      go_wp2
      go_region_law (first
        | (go_simp;go_at_call 167;refine (HF.out _ hw0.drew (zM g1)).mono ?_;rintro en w1 ⟨rfl,⟨q,r1,hq,hqe⟩,o1⟩;have hw1:=o1.below hw0.drew (by omega) hsz;have x1:=o1.keep (zM g0) (by omega);have f1:=o1.keep (zM g2) (by omega);have own1:=own_only (own_drawn hown) o1 (by omega);obtain ⟨fb0,fb1,fg0,fg1,flt1⟩:=box2 f1;have fe0:=(box2 (zH f1 (.cells #[.int .i64 rv] 3))).1;have hsz1:=hw1.size;have hq0:=Lib.hid hqe;clear hqe;(try go_simp))
        | (refine zAV rfl (.tmp 20) (.tmp 22) rfl elemI (w.heap.size+3) (.slice aN acc.length cN) acc.length (acc.map intV) (by rfl) (zD own1 (zC w1 (.cells #[.int .i64 rv] 3))) (some ⟨w1.heap.size,0,none⟩) 1 1 [.int .i64 rv] (by rfl) (by rfl) (RowAt.new w1 #[.int .i64 rv] 3) (intV_one [(rv:Int)]) (by unfold maxLen;omega) (by omega) (by simp;omega) (fun h=>by cases h) ?_;intro a2 c2 w2 hown2 hg2 hat2;have hne:∀ k,k<w.heap.size+3 → (Value.slice aN acc.length cN).ownBlock≠some k:=(fun k hk e=>by have:=(own1.lt _ e).1;omega);have hw2:=Below.appended (hw1.alloc hsz1 (.cells #[.int .i64 rv] 3)) (zD own1 (zC w1 (.cells #[.int .i64 rv] 3))) hg2 (hw1.alloc hsz1 (.cells #[.int .i64 rv] 3)).size (by omega);have x2:=zY hg2 (zH x1 (.cells #[.int .i64 rv] 3)) (hne _ (by omega));have r2:=zY hg2 (zH r1 (.cells #[.int .i64 rv] 3)) (hne _ (by omega));have f2:=zY hg2 (zH f1 (.cells #[.int .i64 rv] 3)) (hne _ (by omega));obtain ⟨fd0,fd1,fh0,fh1,flt2⟩:=box2 f2))
      go_wp2
      all_goals
        have hl1:(acc ++ [(rv:Int)]).length=acc.length+1:=by simp
        have hown3:(w2.setCell ⟨w.heap.size+2,0,none⟩ (.slice a2 (acc.length+1) c2)).ownsRow (w.heap.size+3) 3 1 (.slice a2 (acc.length+1) c2) (acc.length+1) ((acc ++ [(rv:Int)]).map intV):=ownsRow_setCell_below (by rw [List.map_append];exact hown2) (a:=⟨w.heap.size+2,0,none⟩) (by show w.heap.size+2<_;omega) _
        have f3:=zQ (i:=0) f2 (.slice a2 (acc.length+1) c2)
        have x3:=zL (i:=0) x2 (G:=w.heap.size+2) (by omega) (.slice a2 (acc.length+1) c2)
        have r3:=zL (i:=0) r2 (G:=w.heap.size+2) (by omega) (.slice a2 (acc.length+1) c2)
        have hw3:=hw2.setCell (p:=⟨w.heap.size+2,0,none⟩) (by show w.heap.size≤w.heap.size+2;omega) (.slice a2 (acc.length+1) c2)
        refine wp_goto (And.intro rfl (And.intro (CutInv.mk (left:=m) (p:=q) (e:=re) (acc:=acc ++ [(rv:Int)]) (aN:=a2) (cN:=c2) hq (by omega) (fun h=>by rw [hq0.out h];exact HN.out h) HS.out x3 r3 (by rw [hl1];exact f3) (by rw [hl1];exact hown3) hw3 rfl) ?_))
        show m<m+1
        omega
    · have hsz0:w.heap.size≤wr.heap.size:=hsz
      by_cases he:e=0
      · subst he
        have hT:=hT0 rfl
        obtain rfl:left=0:=by omega
        clear hT0 hT1 hgo
        obtain rfl:T=(0,acc,p):=hT.symm
        have hbig:bs.length≤1000000:=hlm
        by_cases c1:bs.length<p+2
        · have HRet:Hid (cutP bs=(3,[],[],0)):=by rw [Hid,HC.out,if_pos rfl];unfold tailP;rw [if_pos c1]
          have HNb:Hid (∀ W,W.heap[w.heap.size+1]?=some (rdC a bs.length cap p 0) → Calls Tryz.prog 166 #[.pointer (some ⟨w.heap.size+1,0,none⟩),.int .i64 2] W fun en w'=>en=.returned (.int .i64 0)∧w'.heap[w.heap.size+1]?=some (rdC a bs.length cap p 3)∧Only (w.heap.size+1) W w'):=fun W g=>number_more (w.heap.size+1) a bs.length cap p 2 c1 hlm (by omega) W g
          have HTb:Hid (∀ W,W.heap[w.heap.size+1]?=some (rdC a bs.length cap p 3) → Calls Tryz.prog 168 #[.pointer (some ⟨w.heap.size+1,0,none⟩),.int .i64 0] W fun en w'=>en=.returned (.slice none 0 0)∧∃ k,w'=W.drewN k):=fun W g=>take_bad (w.heap.size+1) a bs.length cap p 3 0 (by decide) W g
          clear hT c1
          go_wp2_with (first
            | (go_at_call 166;refine (HNb.out _ g1).mono ?_;rintro en w1 ⟨rfl,r1,o1⟩;have hw1:=o1.below hw0 (by omega) hsz0;have x1:=o1.keep g0 (by omega);have f1:=o1.keep g2 (by omega);obtain ⟨rc0,rc1,rc2,rf0,rf1,rf2,rlt⟩:=box3 r1;have hsz1:=hw1.size)
            | (go_at_call 168;refine (HTb.out _ r1).mono ?_;rintro en w2 ⟨rfl,k2,rfl⟩;have x2:=zI x1 k2;have r2:=zI r1 k2;have f2:=zI f1 k2;have hw2:=Below.many hw1 k2;have hsz2:=hw2.size)
            | (go_at_call 104;refine (HCl.out _).mono ?_;rintro en w3 ⟨a3,c3,rfl,hown3,hb3⟩;have hw3:=hw2.trans (hb3.mono hsz2);have x3:=zA hb3 x2;have r3:=zA hb3 r2;have f3:=zA hb3 f2;obtain ⟨fc0,fc1,ff0,ff1,flt⟩:=box2 f3;have r4:=zL (i:=1) r3 (G:=w.heap.size+2) (by omega) (.slice a3 0 c3);have x4:=zL (i:=1) x3 (G:=w.heap.size+2) (by omega) (.slice a3 0 c3);obtain ⟨rc0,rc1,rc2,rf0,rf1,rf2,rlt⟩:=box3 r4;obtain ⟨xc0,xc1,xf0,xf1,xlt⟩:=box2 x4;have hw4:=hw3.setCell (p:=⟨w.heap.size+2,1,none⟩) (by show w.heap.size≤w.heap.size+2;omega) (.slice a3 0 c3)))
          go_region_held3 (fun W=>W.cell? ⟨w.heap.size+1,2,none⟩=some (.int .i64 3)) (first | exact rc2 | go_keep) (fail)
          go_wp2
          simp only [Exit.jump]
          obtain ⟨q0,q1,_⟩:=box2 (zM (zAA x4 (.slice none 0 0) (.slice none 0 0)))
          refine bodyPost_ret (v:=.tuple #[.agg #[.slice none 0 0,.slice none 0 0],.int .i64 0,.int .i64 3]) (by simp [results,Tryz.results158,go_sem,q0,q1]) rfl ?_
          rw [HRet.out]
          exact RetCut.none _ rfl (zP hw4 (Nat.le_refl _) _ _).drew
        · have hsv:valB ((bs.drop p).take 2)=szP bs p:=valB_two (by omega)
          have HNo:Hid (∀ W,Below w.heap.size w W → W.heap[w.heap.size+1]?=some (rdC a bs.length cap p 0) → Calls Tryz.prog 166 #[.pointer (some ⟨w.heap.size+1,0,none⟩),.int .i64 2] W fun en w'=>en=.returned (.int .i64 (szP bs p:Nat))∧w'.heap[w.heap.size+1]?=some (rdC a bs.length cap ((p:Int)+2) 0)∧Only (w.heap.size+1) W w'):=fun W h g=>by
            have:=number_ok (w.heap.size+1) a bs cap p 2 (by omega) (by omega) hlm hcap w W HB.out h (by omega) g
            rw [hsv] at this
            exact this
          have hTail:tailP bs acc p=(if 4096<szP bs p then (7,[],[],0) else if bs.length<p+2+szP bs p then (3,[],[],0) else (0,acc,(bs.drop (p+2)).take (szP bs p),p+2+szP bs p)):=by unfold tailP;rw [if_neg c1]
          have HC2:Hid (cutP bs=tailP bs acc p):=by rw [Hid,HC.out,if_pos rfl]
          have hs16:szP bs p<65536:=by
            have h1:=(bs.getD p 0).toNat_lt
            have h2:=(bs.getD (p+1) 0).toNat_lt
            unfold szP;omega
          clear hsv hT HC HT
          generalize szP bs p=s at HNo hTail hs16
          have e2:((p+2:Nat):Int)=(p:Int)+2:=by omega
          by_cases c2:4096<s
          · rw [if_pos c2] at hTail
            have HRet:Hid (cutP bs=(7,[],[],0)):=by rw [Hid,HC2.out,hTail]
            have HTb:Hid (∀ W,W.heap[w.heap.size+1]?=some (rdC a bs.length cap ((p:Int)+2) 7) → Calls Tryz.prog 168 #[.pointer (some ⟨w.heap.size+1,0,none⟩),.int .i64 s] W fun en w'=>en=.returned (.slice none 0 0)∧∃ k,w'=W.drewN k):=fun W g=>take_bad (w.heap.size+1) a bs.length cap ((p:Int)+2) 7 s (by decide) W g
            have c2':(4096:Int)<(s:Int):=by omega
            clear hTail c1 e2 hs16 HC2
            go_wp2_with (first
              | (go_at_call 166;refine (HNo.out _ hw0 g1).mono ?_;rintro en w1 ⟨rfl,r1,o1⟩;have hw1:=o1.below hw0 (by omega) hsz0;have x1:=o1.keep g0 (by omega);have f1:=o1.keep g2 (by omega);obtain ⟨rc0,rc1,rc2,rf0,rf1,rf2,rlt⟩:=box3 r1;have hsz1:=hw1.size)
              | (go_at_call 168;refine (HTb.out _ (zQ (i:=2) r1 (.int .i64 7))).mono ?_;rintro en w2 ⟨rfl,k2,rfl⟩;have x2:=zI (zL (i:=2) x1 (G:=w.heap.size+1) (by omega) (.int .i64 7)) k2;have r2:=zI (zQ (i:=2) r1 (.int .i64 7)) k2;have f2:=zI (zL (i:=2) f1 (G:=w.heap.size+1) (by omega) (.int .i64 7)) k2;have hw2:=Below.many (hw1.setCell (p:=⟨w.heap.size+1,2,none⟩) (by show w.heap.size≤w.heap.size+1;omega) (.int .i64 7)) k2;have hsz2:=hw2.size)
              | (go_at_call 104;refine (HCl.out _).mono ?_;rintro en w3 ⟨a3,c3,rfl,hown3,hb3⟩;have hw3:=hw2.trans (hb3.mono hsz2);have x3:=zA hb3 x2;have r3:=zA hb3 r2;have f3:=zA hb3 f2;obtain ⟨fc0,fc1,ff0,ff1,flt⟩:=box2 f3;have r4:=zL (i:=1) r3 (G:=w.heap.size+2) (by omega) (.slice a3 0 c3);have x4:=zL (i:=1) x3 (G:=w.heap.size+2) (by omega) (.slice a3 0 c3);obtain ⟨rc0,rc1,rc2,rf0,rf1,rf2,rlt⟩:=box3 r4;obtain ⟨xc0,xc1,xf0,xf1,xlt⟩:=box2 x4;have hw4:=hw3.setCell (p:=⟨w.heap.size+2,1,none⟩) (by show w.heap.size≤w.heap.size+2;omega) (.slice a3 0 c3)))
            go_region_held3 (fun W=>W.cell? ⟨w.heap.size+1,2,none⟩=some (.int .i64 7)) (first | exact rc2 | go_keep) (fail)
            go_wp2
            simp only [Exit.jump]
            obtain ⟨q0,q1,_⟩:=box2 (zM (zAA x4 (.slice none 0 0) (.slice none 0 0)))
            refine bodyPost_ret (v:=.tuple #[.agg #[.slice none 0 0,.slice none 0 0],.int .i64 0,.int .i64 7]) (by simp [results,Tryz.results158,go_sem,q0,q1]) rfl ?_
            rw [HRet.out]
            exact RetCut.none _ rfl (zP hw4 (Nat.le_refl _) _ _).drew
          · rw [if_neg c2] at hTail
            have c2':decide ((4096:Int)<(s:Int))=false:=decide_eq_false (by omega)
            by_cases c3:bs.length<p+2+s
            · rw [if_pos c3] at hTail
              have HRet:Hid (cutP bs=(3,[],[],0)):=by rw [Hid,HC2.out,hTail]
              have HTb:Hid (∀ W,W.heap[w.heap.size+1]?=some (rdC a bs.length cap ((p:Int)+2) 0) → Calls Tryz.prog 168 #[.pointer (some ⟨w.heap.size+1,0,none⟩),.int .i64 s] W fun en w'=>en=.returned (.slice none 0 0)∧w'.heap[w.heap.size+1]?=some (rdC a bs.length cap ((p+2:Nat):Int) 3)∧Only (w.heap.size+1) W w'):=fun W g=>take_more (w.heap.size+1) a bs.length cap (p+2) s (by omega) hlm (by omega) W (by rw [e2];exact g)
              clear hTail c1 c2 c3 e2 HC2
              go_wp2_with (first
                | (go_at_call 166;refine (HNo.out _ hw0 g1).mono ?_;rintro en w1 ⟨rfl,r1,o1⟩;have hw1:=o1.below hw0 (by omega) hsz0;have x1:=o1.keep g0 (by omega);have f1:=o1.keep g2 (by omega);obtain ⟨rc0,rc1,rc2,rf0,rf1,rf2,rlt⟩:=box3 r1;have hsz1:=hw1.size)
                | (go_at_call 168;refine (HTb.out _ r1).mono ?_;rintro en w2 ⟨rfl,r2,o2⟩;have hw2:=o2.below hw1 (by omega) hsz1;have x2:=o2.keep x1 (by omega);have f2:=o2.keep f1 (by omega);have hsz2:=hw2.size)
                | (go_at_call 104;refine (HCl.out _).mono ?_;rintro en w3 ⟨a3,c3,rfl,hown3,hb3⟩;have hw3:=hw2.trans (hb3.mono hsz2);have x3:=zA hb3 x2;have r3:=zA hb3 r2;have f3:=zA hb3 f2;obtain ⟨fc0,fc1,ff0,ff1,flt⟩:=box2 f3;have r4:=zL (i:=1) r3 (G:=w.heap.size+2) (by omega) (.slice a3 0 c3);have x4:=zL (i:=1) x3 (G:=w.heap.size+2) (by omega) (.slice a3 0 c3);obtain ⟨rc0,rc1,rc2,rf0,rf1,rf2,rlt⟩:=box3 r4;obtain ⟨xc0,xc1,xf0,xf1,xlt⟩:=box2 x4;have hw4:=hw3.setCell (p:=⟨w.heap.size+2,1,none⟩) (by show w.heap.size≤w.heap.size+2;omega) (.slice a3 0 c3)))
              go_region_held3 (fun W=>W.cell? ⟨w.heap.size+1,2,none⟩=some (.int .i64 3)) (first | exact rc2 | go_keep) (fail)
              go_wp2
              simp only [Exit.jump]
              obtain ⟨q0,q1,_⟩:=box2 (zM (zAA x4 (.slice none 0 0) (.slice none 0 0)))
              refine bodyPost_ret (v:=.tuple #[.agg #[.slice none 0 0,.slice none 0 0],.int .i64 0,.int .i64 3]) (by simp [results,Tryz.results158,go_sem,q0,q1]) rfl ?_
              rw [HRet.out]
              exact RetCut.none _ rfl (zP hw4 (Nat.le_refl _) _ _).drew
            · rw [if_neg c3] at hTail
              have HRet:Hid (cutP bs=(0,acc,(bs.drop (p+2)).take s,p+2+s)):=by rw [Hid,HC2.out,hTail]
              have HTb:Hid (∀ W,W.heap[w.heap.size+1]?=some (rdC a bs.length cap ((p:Int)+2) 0) → Calls Tryz.prog 168 #[.pointer (some ⟨w.heap.size+1,0,none⟩),.int .i64 s] W fun en w'=>en=.returned (.slice (cutA a (p+2+s) (p+2)) s s)∧w'.heap[w.heap.size+1]?=some (rdC a bs.length cap ((p:Int)+2+(s:Int)) 0)∧Only (w.heap.size+1) W w'):=fun W g=>by
                have:=take_ok (w.heap.size+1) a bs.length cap (p+2) s (by omega) hlm hcap W (by rw [e2];exact g)
                rwa [show ((p+2+s:Nat):Int)=(p:Int)+2+(s:Int) by omega] at this
              have hDl:((bs.drop (p+2)).take s).length=s:=by rw [List.length_take,List.length_drop];omega
              have hDc:=HB.out.three (p+2) s
              have hDn:cutA a (p+2+s) (p+2)=none → s=0:=fun h=>by
                unfold cutA at h
                by_cases hs0:s=0
                · exact hs0
                · rw [if_neg (by omega)] at h
                  have:=hz (by simpa using h)
                  omega
              have HCd:Hid (∀ W,Below w.heap.size w W → Calls Tryz.prog 104 #[.slice (cutA a (p+2+s) (p+2)) s s] W (zAZ 5 1 s (((bs.drop (p+2)).take s).map zX) W)):=fun W h=>by
                have:=cloneB_any (cutA a (p+2+s) (p+2)) s ((bs.drop (p+2)).take s) W (hDc.below h) (fun h=>by rw [hDl];exact hDn h) (by omega)
                rwa [hDl] at this
              have HDl:=Lib.hid hDl
              clear hTail c1 c2 c3 e2 HC2 hDl hDc hDn
              generalize cutA a (p+2+s) (p+2)=A at HTb HCd
              generalize (bs.drop (p+2)).take s=D at HRet HCd HDl
              go_wp2_with (first
                | (go_at_call 166;refine (HNo.out _ hw0 g1).mono ?_;rintro en w1 ⟨rfl,r1,o1⟩;have hw1:=o1.below hw0 (by omega) hsz0;have x1:=o1.keep g0 (by omega);have f1:=o1.keep g2 (by omega);have own1:=own_only hown o1 (by omega);obtain ⟨rc0,rc1,rc2,rf0,rf1,rf2,rlt⟩:=box3 r1;have hsz1:=hw1.size)
                | (go_at_call 168;refine (HTb.out _ r1).mono ?_;rintro en w2 ⟨rfl,r2,o2⟩;have hw2:=o2.below hw1 (by omega) hsz1;have x2:=o2.keep x1 (by omega);have f2:=o2.keep f1 (by omega);have own2:=own_only own1 o2 (by omega);have hsz2:=hw2.size)
                | (go_at_call 104;refine (HCd.out _ hw2).mono ?_;rintro en w3 ⟨a3,c3,rfl,hown3,hb3⟩;have hsz2':=zB f2;have hw3:=hw2.trans (hb3.mono hsz2);have x3:=zA hb3 x2;have r3:=zA hb3 r2;have f3:=zA hb3 f2;have own3:=zD own2 hb3;obtain ⟨fc0,fc1,ff0,ff1,flt⟩:=box2 f3;have r4:=zL (i:=1) r3 (G:=w.heap.size+2) (by omega) (.slice a3 s c3);have x4:=zL (i:=1) x3 (G:=w.heap.size+2) (by omega) (.slice a3 s c3);have f4:=zQ (i:=1) f3 (.slice a3 s c3);obtain ⟨rc0,rc1,rc2,rf0,rf1,rf2,rlt⟩:=box3 r4;obtain ⟨xc0,xc1,xf0,xf1,xlt⟩:=box2 x4;obtain ⟨fd0,fd1,fe0,fe1,flt'⟩:=box2 f4;have hw4:=hw3.setCell (p:=⟨w.heap.size+2,1,none⟩) (by show w.heap.size≤w.heap.size+2;omega) (.slice a3 s c3)))
              go_region_held3 (fun W=>W.cell? ⟨w.heap.size+1,1,none⟩=some (.int .i64 ((p:Int)+2+(s:Int)))∧W.cell? ⟨w.heap.size+2,0,none⟩=some (.slice aN acc.length cN)∧W.cell? ⟨w.heap.size+2,1,none⟩=some (.slice a3 s c3)) (first | exact ⟨rc1,fd0,fd1⟩ | go_keep) (fail)
              go_wp2
              simp only [Exit.jump]
              obtain ⟨q0,q1,_⟩:=box2 (zM (zAA x4 (.slice aN acc.length cN) (.slice a3 s c3)))
              refine bodyPost_ret (v:=.tuple #[.agg #[.slice aN acc.length cN,.slice a3 s c3],.int .i64 ((p:Int)+2+(s:Int)),.int .i64 0]) (by simp [results,Tryz.results158,go_sem,q0,q1]) rfl ?_
              rw [HRet.out]
              have hlw2:w.heap.size≤w2.heap.size:=hsz2
              refine ⟨aN,cN,a3,c3,?_,?_,?_,((hw4.setCell (p:=⟨w.heap.size,0,none⟩) (Nat.le_refl _) _).setCell (p:=⟨w.heap.size,1,none⟩) (Nat.le_refl _) _).drew⟩
              · simp only [HDl.out]
                rw [show ((p+2+s:Nat):Int)=(p:Int)+2+(s:Int) by omega]
              · exact zW (base:=w.heap.size+3) (own_drawn (ownsRow_setCell_below (ownsRow_setCell_below (ownsRow_setCell_below own3 (a:=⟨w.heap.size+2,1,none⟩) (by show w.heap.size+2<_;omega) _) (a:=⟨w.heap.size,0,none⟩) (by show w.heap.size<_;omega) _) (a:=⟨w.heap.size,1,none⟩) (by show w.heap.size<_;omega) _)) (by omega)
              · simp only [HDl.out]
                exact zW (base:=w2.heap.size) (own_drawn (ownsRow_setCell_below (ownsRow_setCell_below (ownsRow_setCell_below hown3 (a:=⟨w.heap.size+2,1,none⟩) (by show w.heap.size+2<_;omega) _) (a:=⟨w.heap.size,0,none⟩) (by show w.heap.size<_;omega) _) (a:=⟨w.heap.size,1,none⟩) (by show w.heap.size<_;omega) _)) hlw2
      · have hT:=hT1 he
        have he1:(e == 0)=false:=by simpa using he
        have he2:(e != 0)=true:=by simpa using he
        have HRet:Hid (cutP bs=(e,[],[],0)):=by rw [Hid,HC.out,hT,if_neg he]
        have HNb:Hid (∀ W,W.heap[w.heap.size+1]?=some (rdC a bs.length cap p e) → Calls Tryz.prog 166 #[.pointer (some ⟨w.heap.size+1,0,none⟩),.int .i64 2] W fun en w'=>en=.returned (.int .i64 0)∧w'.heap[w.heap.size+1]?=some (rdC a bs.length cap p e)∧Only (w.heap.size+1) W w'):=fun W g=>number_bad (w.heap.size+1) a bs.length cap p e 2 he W g
        have HTb:Hid (∀ W,W.heap[w.heap.size+1]?=some (rdC a bs.length cap p e) → Calls Tryz.prog 168 #[.pointer (some ⟨w.heap.size+1,0,none⟩),.int .i64 0] W fun en w'=>en=.returned (.slice none 0 0)∧∃ k,w'=W.drewN k):=fun W g=>take_bad (w.heap.size+1) a bs.length cap p e 0 he W g
        clear hT0 hT1 hgo hT he
        have hleft:left=0∨0<left:=by omega
        rcases hleft with rfl | hl
        all_goals
          try have hl':(0:Int)<(left:Int):=by omega
          go_wp2_with (first
            | (go_at_call 166;refine (HNb.out _ g1).mono ?_;rintro en w1 ⟨rfl,r1,o1⟩;have hw1:=o1.below hw0 (by omega) hsz0;have x1:=o1.keep g0 (by omega);have f1:=o1.keep g2 (by omega);obtain ⟨rc0,rc1,rc2,rf0,rf1,rf2,rlt⟩:=box3 r1;have hsz1:=hw1.size)
            | (go_at_call 168;refine (HTb.out _ r1).mono ?_;rintro en w2 ⟨rfl,k2,rfl⟩;have x2:=zI x1 k2;have r2:=zI r1 k2;have f2:=zI f1 k2;have hw2:=Below.many hw1 k2;have hsz2:=hw2.size)
            | (go_at_call 104;refine (HCl.out _).mono ?_;rintro en w3 ⟨a3,c3,rfl,hown3,hb3⟩;have hw3:=hw2.trans (hb3.mono hsz2);have x3:=zA hb3 x2;have r3:=zA hb3 r2;have f3:=zA hb3 f2;obtain ⟨fc0,fc1,ff0,ff1,flt⟩:=box2 f3;have r4:=zL (i:=1) r3 (G:=w.heap.size+2) (by omega) (.slice a3 0 c3);have x4:=zL (i:=1) x3 (G:=w.heap.size+2) (by omega) (.slice a3 0 c3);obtain ⟨rc0,rc1,rc2,rf0,rf1,rf2,rlt⟩:=box3 r4;obtain ⟨xc0,xc1,xf0,xf1,xlt⟩:=box2 x4;have hw4:=hw3.setCell (p:=⟨w.heap.size+2,1,none⟩) (by show w.heap.size≤w.heap.size+2;omega) (.slice a3 0 c3)))
          go_region_held3 (fun W=>W.cell? ⟨w.heap.size+1,2,none⟩=some (.int .i64 e)) (first | exact rc2 | go_keep) (fail)
          go_wp2
          simp only [Exit.jump]
          obtain ⟨q0,q1,_⟩:=box2 (zM (zAA x4 (.slice none 0 0) (.slice none 0 0)))
          refine bodyPost_ret (v:=.tuple #[.agg #[.slice none 0 0,.slice none 0 0],.int .i64 0,.int .i64 e]) (by simp [results,Tryz.results158,go_sem,q0,q1]) rfl ?_
          rw [HRet.out]
          exact RetCut.none _ rfl (zP hw4 (Nat.le_refl _) _ _).drew
  · intro hp
    have AL:=alloc3 w (.cells #[.slice none 0 0,.slice none 0 0] 153) (rdC a bs.length cap 0 0) (.cells #[.slice none 0 0,.slice none 0 0] 153)
    have HAL:=Lib.hid AL
    clear AL
    by_cases h0:bs.length=0
    · have HTT:=Lib.hid (HT.out.1 h0)
      have HNm:Hid (∀ W,W.heap[w.heap.size+1]?=some (rdC a bs.length cap 0 0) → Calls Tryz.prog 166 #[.pointer (some ⟨w.heap.size+1,0,none⟩),.int .i64 1] W fun en w'=>en=.returned (.int .i64 0)∧w'.heap[w.heap.size+1]?=some (rdC a bs.length cap 0 3)∧Only (w.heap.size+1) W w'):=fun W g=>number_more (w.heap.size+1) a bs.length cap 0 1 (by omega) hlm (by omega) W g
      clear h0
      go_wp2_with (go_at_call 166;refine (HNm.out _ HAL.out.1.2.1).mono ?_;rintro en w1 ⟨rfl,r1,o1⟩)
      go_step3
      obtain ⟨⟨q0,q1,q2⟩,hsz,hbw⟩:=HAL.out
      refine (by assumption:∀ (a:Act) (w:World),_ → _) _ _ (hp _ _ ?_)
      exact CutInv.mk (left:=0) (p:=0) (e:=3) (acc:=[]) (aN:=none) (cN:=0) (by omega) (by simp) (fun h=>by cases h) (fun _=>HTT.out) (o1.keep q0 (by omega)) r1 (o1.keep q2 (by omega)) (World.ownsRow_nil _ _ _ _) (o1.below hbw (by omega) (by omega)) rfl
    · have HTT:=Lib.hid (HT.out.2 (by omega))
      have HNo:Hid (∀ W,Below w.heap.size w W → W.heap[w.heap.size+1]?=some (rdC a bs.length cap 0 0) → Calls Tryz.prog 166 #[.pointer (some ⟨w.heap.size+1,0,none⟩),.int .i64 1] W fun en w'=>en=.returned (.int .i64 ((bs.getD 0 0).toNat:Nat))∧w'.heap[w.heap.size+1]?=some (rdC a bs.length cap 1 0)∧Only (w.heap.size+1) W w'):=fun W h g=>by
        have:=number_ok (w.heap.size+1) a bs cap 0 1 (by omega) (by omega) hlm hcap w W HB.out h (by omega) g
        rw [valB_one (by omega)] at this
        exact this
      have hc:=(bs.getD 0 0).toNat_lt
      generalize (bs.getD 0 0).toNat=c at HTT HNo hc
      have h1:1≤bs.length:=by omega
      clear h0
      go_wp2_with (go_at_call 166;refine (HNo.out _ HAL.out.2.2 HAL.out.1.2.1).mono ?_;rintro en w1 ⟨rfl,r1,o1⟩)
      go_step3
      obtain ⟨⟨q0,q1,q2⟩,hsz,hbw⟩:=HAL.out
      refine (by assumption:∀ (a:Act) (w:World),_ → _) _ _ (hp _ _ ?_)
      exact CutInv.mk (left:=c) (p:=1) (e:=0) (acc:=[]) (aN:=none) (cN:=0) h1 (by simp;omega) (fun _=>HTT.out) (fun h=>(h rfl).elim) (o1.keep q0 (by omega)) r1 (o1.keep q2 (by omega)) (World.ownsRow_nil _ _ _ _) (o1.below hbw (by omega) (by omega)) rfl
def RetUn (r:Int × List Int × List UInt8) (w:World) (en:Ending) (w':World):Prop :=
  ∃ a1 c1 a2 c2,en=.returned (.tuple #[.agg #[.slice a1 r.2.1.length c1,.slice a2 r.2.2.length c2],.int .i64 r.1])∧w'.ownsRow w.heap.size 3 1 (.slice a1 r.2.1.length c1) r.2.1.length (r.2.1.map intV)∧w'.ownsRow w.heap.size 5 1 (.slice a2 r.2.2.length c2) r.2.2.length (r.2.2.map zX)∧Below w.heap.size w w'
theorem RetUn.none (e:Int) {w w':World} {en:Ending} (h:en=.returned (.tuple #[.agg #[.slice Option.none 0 0,.slice Option.none 0 0],.int .i64 e])) (hb:Below w.heap.size w w'):RetUn (e,[],[]) w en w':=⟨Option.none,0,Option.none,0,h,World.ownsRow_nil _ _ _ _,World.ownsRow_nil _ _ _ _,hb⟩
set_option maxRecDepth 100000 in
set_option maxHeartbeats 3200000 in
theorem unpack_any (a:Option Addr) (cap:Nat) (bs:List UInt8) (w:World) (hb:CellsB w a bs) (hcap:bs.length≤cap) (hz:a=none → bs.length=0) (hlm:bs.length≤1000000) :
    Calls Tryz.prog 146 #[.slice a bs.length cap] w (RetUn (zBD bs) w):=by
  have HC:Hid (∀ W,Below w.heap.size w W → Calls Tryz.prog 158 #[.slice a bs.length cap] W (RetCut (cutP bs) W)):=fun W h=>cut_any a cap bs W (hb.below h) hcap hz hlm
  clear hb hz
  have hu:zBD bs=zBD bs:=rfl
  rw (config:={ occs:=.pos [2] }) [zBD] at hu
  rw [hu]
  clear hu
  generalize cutP bs=r at HC
  obtain ⟨re,r1,r2,rn⟩:=r
  simp only
  by_cases he:re=0
  · subst he
    by_cases hn:rn=bs.length
    · rw [if_neg (fun h=>h.2 hn)]
      have hn1:((rn:Int) != (bs.length:Int))=false:=by simp [hn]
      have HN:=Lib.hid hn
      clear hn
      go_enter Tryz.func146,Tryz.ntmps146
      go_wp2_with (go_at_call 158;refine (HC.out _ (zC _ _)).mono ?_;rintro en w1 ⟨a1,c1,a2,c2,rfl,own1,own2,hb1⟩;have hw1:=zJ hb1;have g0:=zA hb1 (zG w _);obtain ⟨hc0,hc1,hf0,hf1,hlt0⟩:=box2 g0;have g1:=zG w1 (.cells #[.slice a1 r1.length c1,.slice a2 r2.length c2] 153);obtain ⟨fc0,fc1,ff0,ff1,flt⟩:=box2 g1;have g2:=zH g0 (.cells #[.slice a1 r1.length c1,.slice a2 r2.length c2] 153))
      obtain ⟨q0,q1,_⟩:=box2 (zH (zAA g0 (.slice a1 r1.length c1) (.slice a2 r2.length c2)) (.cells #[.slice a1 r1.length c1,.slice a2 r2.length c2] 153))
      refine bodyPost_ret (v:=.tuple #[.agg #[.slice a1 r1.length c1,.slice a2 r2.length c2],.int .i64 0]) (by simp [results,Tryz.results146,go_sem,q0,q1]) rfl ?_
      have hs1:=hw1.size
      have o1:=zW (base':=w.heap.size+1) own1 (by simp)
      have o2:=zW (base':=w.heap.size+1) own2 (by simp)
      exact ⟨a1,c1,a2,c2,rfl,zW (zD (ownsRow_setCell_below (ownsRow_setCell_below o1 (a:=⟨w.heap.size,0,none⟩) (by show w.heap.size<_;omega) _) (a:=⟨w.heap.size,1,none⟩) (by show w.heap.size<_;omega) _) (zC _ _)) (by omega),zW (zD (ownsRow_setCell_below (ownsRow_setCell_below o2 (a:=⟨w.heap.size,0,none⟩) (by show w.heap.size<_;omega) _) (a:=⟨w.heap.size,1,none⟩) (by show w.heap.size<_;omega) _) (zC _ _)) (by omega),(zP hw1 (Nat.le_refl _) _ _).alloc (zP hw1 (Nat.le_refl _) _ _).size _⟩
    · rw [if_pos ⟨rfl,hn⟩]
      have hn1:((rn:Int) != (bs.length:Int))=true:=by simp;omega
      clear hn
      go_enter Tryz.func146,Tryz.ntmps146
      go_wp2_with (go_at_call 158;refine (HC.out _ (zC _ _)).mono ?_;rintro en w1 ⟨a1,c1,a2,c2,rfl,own1,own2,hb1⟩;have hw1:=zJ hb1;have g0:=zA hb1 (zG w _);obtain ⟨hc0,hc1,hf0,hf1,hlt0⟩:=box2 g0;have g1:=zG w1 (.cells #[.slice a1 r1.length c1,.slice a2 r2.length c2] 153);obtain ⟨fc0,fc1,ff0,ff1,flt⟩:=box2 g1;have g2:=zH g0 (.cells #[.slice a1 r1.length c1,.slice a2 r2.length c2] 153))
      obtain ⟨q0,q1,_⟩:=box2 (zH (zAA g0 (.slice none 0 0) (.slice none 0 0)) (.cells #[.slice a1 r1.length c1,.slice a2 r2.length c2] 153))
      refine bodyPost_ret (v:=.tuple #[.agg #[.slice none 0 0,.slice none 0 0],.int .i64 2]) (by simp [results,Tryz.results146,go_sem,q0,q1]) rfl ?_
      exact RetUn.none 2 rfl ((zP hw1 (Nat.le_refl _) _ _).alloc (zP hw1 (Nat.le_refl _) _ _).size _)
  · rw [if_neg (fun h=>he h.1)]
    have he1:(re == 0)=false:=by simpa using he
    clear he
    go_enter Tryz.func146,Tryz.ntmps146
    go_wp2_with (go_at_call 158;refine (HC.out _ (zC _ _)).mono ?_;rintro en w1 ⟨a1,c1,a2,c2,rfl,own1,own2,hb1⟩;have hw1:=zJ hb1;have g0:=zA hb1 (zG w _);obtain ⟨hc0,hc1,hf0,hf1,hlt0⟩:=box2 g0;have g1:=zG w1 (.cells #[.slice a1 r1.length c1,.slice a2 r2.length c2] 153);obtain ⟨fc0,fc1,ff0,ff1,flt⟩:=box2 g1;have g2:=zH g0 (.cells #[.slice a1 r1.length c1,.slice a2 r2.length c2] 153))
    obtain ⟨q0,q1,_⟩:=box2 (zH (zAA g0 (.slice a1 r1.length c1) (.slice a2 r2.length c2)) (.cells #[.slice a1 r1.length c1,.slice a2 r2.length c2] 153))
    refine bodyPost_ret (v:=.tuple #[.agg #[.slice a1 r1.length c1,.slice a2 r2.length c2],.int .i64 re]) (by simp [results,Tryz.results146,go_sem,q0,q1]) rfl ?_
    have hs1:=hw1.size
    have o1:=zW (base':=w.heap.size+1) own1 (by simp)
    have o2:=zW (base':=w.heap.size+1) own2 (by simp)
    exact ⟨a1,c1,a2,c2,rfl,zW (zD (ownsRow_setCell_below (ownsRow_setCell_below o1 (a:=⟨w.heap.size,0,none⟩) (by show w.heap.size<_;omega) _) (a:=⟨w.heap.size,1,none⟩) (by show w.heap.size<_;omega) _) (zC _ _)) (by omega),zW (zD (ownsRow_setCell_below (ownsRow_setCell_below o2 (a:=⟨w.heap.size,0,none⟩) (by show w.heap.size<_;omega) _) (a:=⟨w.heap.size,1,none⟩) (by show w.heap.size<_;omega) _) (zC _ _)) (by omega),(zP hw1 (Nat.le_refl _) _ _).alloc (zP hw1 (Nat.le_refl _) _ _).size _⟩
theorem numP_ok {bs:List UInt8} {c:Nat} (hc:(bs.getD 0 0).toNat=c) (h0:0<bs.length) (h7:c≤7) (hf:0<c → 2≤bs.length → bs.getD 1 0≠0) (hl:1+c≤bs.length):numP bs=(0,valB ((bs.drop 1).take c),1+c):=by
  unfold numP
  rw [hc,if_neg (by omega),if_neg (by omega),if_neg (fun h=>hf h.1 h.2.1 h.2.2),if_neg (by omega)]
theorem numP_more {bs:List UInt8} {c:Nat} (hc:(bs.getD 0 0).toNat=c) (h7:c≤7) (hf:0<c → 2≤bs.length → bs.getD 1 0≠0) (hl:bs.length<1+c):numP bs=(3,0,0):=by
  unfold numP
  by_cases h0:bs.length=0
  · rw [if_pos h0]
  · rw [hc,if_neg h0,if_neg (by omega),if_neg (fun h=>hf h.1 h.2.1 h.2.2),if_pos hl]
theorem numP_form {bs:List UInt8} {c:Nat} (hc:(bs.getD 0 0).toNat=c) (h0:0<c) (h2:2≤bs.length) (h1:bs.getD 1 0=0):numP bs=(2,0,0):=by
  unfold numP
  rw [hc,if_neg (by omega)]
  by_cases h7:7<c
  · rw [if_pos h7]
  · rw [if_neg h7,if_pos ⟨h0,h2,h1⟩]
theorem numP_long {bs:List UInt8} {c:Nat} (hc:(bs.getD 0 0).toNat=c) (h0:0<bs.length) (h7:7<c):numP bs=(2,0,0):=by
  unfold numP
  rw [hc,if_neg (by omega),if_pos h7]
set_option maxHeartbeats 6400000 in
theorem refNumber_any (a : Option Addr) (cap : Nat) (bs : List UInt8) (w : World) (hb : CellsB w a bs) (hlm : bs.length ≤ 1000000) :
    Calls Tryz.prog 170 #[.slice a bs.length cap] w fun e w'=>e=.returned (.tuple #[.int .i64 (numP bs).2.1,.int .i64 (numP bs).2.2,.int .i64 (numP bs).1])∧w=w':=by
  by_cases h0:bs.length=0
  · obtain rfl:=List.eq_nil_of_length_eq_zero h0
    clear hb hlm h0
    go_enter Tryz.func170,Tryz.ntmps170
    go_wp2
    refine bodyPost_ret (v:=.tuple #[.int .i64 0,.int .i64 0,.int .i64 3]) (by simp [results,Tryz.results170,go_sem]) rfl ?_
    exact ⟨rfl,rfl⟩
  have hl0:0<bs.length:=by omega
  have hl0':(0:Int)<(bs.length:Int):=by omega
  have hl1:((bs.length:Int) == 0)=false:=by rw [beq_eq_false_iff_ne];omega
  obtain ⟨b,off,rfl,hblt,hcell⟩:=hb.at (k:=0) hl0
  rw [Nat.add_zero] at hcell
  obtain ⟨c,hc⟩:∃ c,(bs.getD 0 0).toNat=c:=⟨_,rfl⟩
  rw [hc] at hcell
  have hc256:c<2 ^ 8:=by rw [← hc];exact (bs.getD 0 0).toNat_lt
  have HCE:=Lib.hid hc
  clear hc h0
  by_cases h7:7<c
  · have HN:=Lib.hid (numP_long HCE.out hl0 h7)
    have h7':(7:Int)<(c:Int):=by omega
    clear hb h7
    go_enter Tryz.func170,Tryz.ntmps170
    go_wp2
    refine bodyPost_ret (v:=.tuple #[.int .i64 0,.int .i64 0,.int .i64 2]) (by simp [results,Tryz.results170,go_sem]) rfl ?_
    rw [HN.out]
    exact ⟨rfl,rfl⟩
  have h7':(c:Int)≤7:=by omega
  have HB:=Lib.hid hb
  clear hb
  go_enter Tryz.func170,Tryz.ntmps170
  go_wp2
  go_loop [6,7] (fun v i=>∃ j:Nat,j≤c∧j<bs.length∧i=.int .i64 ((j:Int)+1)∧v=.int .i64 (valB ((bs.drop 1).take j))∧Hid (0<j → bs.getD 1 0≠0)) (fun _ i=>8 - (intOf i).toNat)
  case atStart=>exact ⟨0,by omega,hl0,rfl,rfl,fun h=>by omega⟩
  case round =>
    obtain ⟨j,hj,hjl,rfl,rfl,HF⟩:=hrel
    by_cases hlt:j<c
    · have hlt':(j:Int)+1≤(c:Int):=by omega
      by_cases hm:bs.length≤j+1
      · have HN:=Lib.hid (numP_more HCE.out (by omega) (fun h1 h2=>by
          by_cases hj0:0<j
          · exact HF.out hj0
          · omega) (by omega))
        have hm':(bs.length:Int)≤(j:Int)+1:=by omega
        clear hm
        go_wp2
        refine bodyPost_ret (v:=.tuple #[.int .i64 0,.int .i64 0,.int .i64 3]) (by simp [results,Tryz.results170,go_sem]) rfl ?_
        rw [HN.out]
        exact ⟨rfl,rfl⟩
      · have hm':(j:Int)+1<(bs.length:Int):=by omega
        have hj0:(0:Int)≤(j:Int)+1:=by omega
        have hj1:((j:Int)+1).toNat=j+1:=by omega
        obtain ⟨b',off',hbb,hblt',hcell'⟩:=HB.out.at (k:=j+1) (by omega)
        cases hbb
        have hv2:valB ((bs.drop 1).take j)<281474976710656:=by
          have h1:=valB_lt ((bs.drop 1).take j)
          have h2:=Nat.pow_le_pow_right (show 0<256 by decide) (show ((bs.drop 1).take j).length≤6 by rw [List.length_take];omega)
          exact Nat.lt_of_lt_of_le h1 h2
        have hv1:valB ((bs.drop 1).take (j+1))=valB ((bs.drop 1).take j) * 256+(bs.getD (j+1) 0).toNat:=by
          have hkl:j<(bs.drop 1).length:=by rw [List.length_drop];omega
          rw [List.take_add_one,List.getElem?_eq_getElem hkl,Option.toList_some,valB_snoc,List.getElem_drop,List.getD_eq_getElem?_getD,List.getElem?_eq_getElem (show j+1<bs.length by omega)]
          congr 3
          simp [Nat.add_comm]
        have hd:=(bs.getD (j+1) 0).toNat_lt
        have HV1:=Lib.hid hv1
        clear hv1
        by_cases hj00:j=0
        · subst hj00
          by_cases hz:bs.getD 1 0=0
          · have HN:=Lib.hid (numP_form HCE.out (by omega) (by omega) hz)
            have hl1':(1:Int)<(bs.length:Int):=by omega
            simp only [Nat.zero_add] at hcell'
            rw [hz] at hcell'
            have h00:((0:UInt8).toNat:Int)=0:=rfl
            rw [h00] at hcell'
            clear hz h00 hv2
            go_wp2
            refine bodyPost_ret (v:=.tuple #[.int .i64 0,.int .i64 0,.int .i64 2]) (by simp [results,Tryz.results170,go_sem]) rfl ?_
            rw [HN.out]
            exact ⟨rfl,rfl⟩
          · have hl1':(1:Int)<(bs.length:Int):=by omega
            simp only [Nat.zero_add] at hcell' HV1 hd
            have hy:(bs.getD 1 0).toNat≠0:=fun h=>hz (UInt8.toNat_inj.1 h)
            have HZ:=Lib.hid hz
            clear hz
            generalize (bs.getD 1 0).toNat=y at hcell' HV1 hd hy
            have hy1:((y:Int) == 0)=false:=by simpa using hy
            have HV0:Hid (valB ((bs.drop 1).take 0)=0):=rfl
            rw [HV0.out] at HV1 ⊢
            clear hv2
            go_wp2
            go_round
            case rel=>exact ⟨1,by omega,by omega,rfl,by rw [HV1.out];simp,fun _=>HZ.out⟩
            case measure=>simp [intOf]
        · have hj11:(((j:Int)+1) == 1)=false:=by rw [beq_eq_false_iff_ne];omega
          generalize (bs.getD (j+1) 0).toNat=y at hcell' HV1 hd
          generalize valB ((bs.drop 1).take j)=v at HV1 hv2
          have hjp:0<j:=by omega
          clear hj00
          go_wp2
          go_round
          case rel=>exact ⟨j+1,by omega,by omega,by go_num,by rw [HV1.out];simp,fun _=>HF.out hjp⟩
          case measure=>simp [intOf];omega
    · obtain rfl:j=c:=by omega
      have HN:=Lib.hid (numP_ok HCE.out hl0 (by omega) (fun h1 _=>HF.out h1) (by omega))
      have hnl:decide ((j:Int)+1≤(j:Int))=false:=decide_eq_false (by omega)
      generalize valB ((bs.drop 1).take j)=v at HN
      go_wp2
      refine bodyPost_ret (v:=.tuple #[.int .i64 v,.int .i64 (1+(j:Int)),.int .i64 0]) (by simp [results,Tryz.results170,go_sem]) rfl ?_
      rw [HN.out]
      exact ⟨by simp,rfl⟩
set_option maxRecDepth 100000 in
set_option maxHeartbeats 12800000 in
theorem refCut_any (a : Option Addr) (cap : Nat) (bs : List UInt8) (w : World) (hb : CellsB w a bs) (hcap : bs.length ≤ cap) (hz : a = none → bs.length = 0) (hlm : bs.length ≤ 1000000) :
    Calls Tryz.prog 163 #[.slice a bs.length cap] w (RetCut (cutP bs) w):=by
  have A2:=And.intro (And.intro (zT w (.cells #[.slice none 0 0,.slice none 0 0] 153) (.cells #[.slice none 0 0,.slice none 0 0] 153)) (zR w (.cells #[.slice none 0 0,.slice none 0 0] 153) (.cells #[.slice none 0 0,.slice none 0 0] 153))) (zAE w (.cells #[.slice none 0 0,.slice none 0 0] 153) (.cells #[.slice none 0 0,.slice none 0 0] 153))
  have HA2:=Lib.hid A2
  clear A2
  have AL:=alloc3 w (.cells #[.slice none 0 0,.slice none 0 0] 153) (.cells #[.slice none 0 0,.slice none 0 0] 153) (.cells #[.slice none 0 0,.slice none 0 0] 153)
  have HAL:=Lib.hid AL
  clear AL
  by_cases h0:bs.length=0
  · obtain rfl:=List.eq_nil_of_length_eq_zero h0
    have HRet:Hid (cutP []=(3,[],[],0)):=rfl
    clear hb hz hcap hlm h0
    obtain ⟨⟨g0,g1⟩,hw0⟩:=HA2.out
    obtain ⟨hc0,hc1,hf0,hf1,hlt0⟩:=box2 g0
    obtain ⟨rc0,rc1,rf0,rf1,hlt1⟩:=box2 g1
    go_enter Tryz.func163,Tryz.ntmps163
    go_wp2
    refine bodyPost_ret (v:=.tuple #[.agg #[.slice none 0 0,.slice none 0 0],.int .i64 0,.int .i64 3]) (by simp [results,Tryz.results163,go_sem]) rfl ?_
    rw [HRet.out]
    exact RetCut.none _ rfl hw0
  have hl0:0<bs.length:=by omega
  have hl0':(0:Int)<(bs.length:Int):=by omega
  have hl1:((bs.length:Int) == 0)=false:=by rw [beq_eq_false_iff_ne];omega
  have hlm':(bs.length:Int)≤1000000:=by omega
  obtain ⟨b,off,rfl,hblt,hcell⟩:=hb.at (k:=0) hl0
  rw [Nat.add_zero] at hcell
  have hcu:cutP bs=(if (numsA bs (bs.getD 0 0).toNat 1 []).1=0 then tailP bs (numsA bs (bs.getD 0 0).toNat 1 []).2.1 (numsA bs (bs.getD 0 0).toNat 1 []).2.2 else ((numsA bs (bs.getD 0 0).toNat 1 []).1,[],[],0)):=if_neg h0
  have hc256:=(bs.getD 0 0).toNat_lt
  generalize (bs.getD 0 0).toNat=c at hcell hcu hc256
  obtain ⟨T,hT⟩:∃ T,numsA bs c 1 []=T:=⟨_,rfl⟩
  rw [hT] at hcu
  have HC:=Lib.hid hcu
  have HB:=Lib.hid hb
  have HT:=Lib.hid hT
  clear hcu hb hT h0
  go_enter Tryz.func163,Tryz.ntmps163
  go_wp2
  go_loopw [7,8] (fun q i wr=>∃ (j p:Nat) (acc:List Int) (aN:Option Addr) (cN:Nat),j≤c∧p≤bs.length∧acc.length=j∧i=.int .i64 (j:Int)∧q=.int .i64 (p:Int)∧Hid (numsA bs (c - j) p acc=T) ∧
    wr.heap[w.heap.size]?=some (.cells #[.slice none 0 0,.slice none 0 0] 153)∧wr.heap[w.heap.size+1]?=some (.cells #[.slice none 0 0,.slice none 0 0] 153)∧wr.heap[w.heap.size+2]?=some (.cells #[.slice aN acc.length cN,.slice none 0 0] 153)∧wr.ownsRow (w.heap.size+3) 3 1 (.slice aN acc.length cN) acc.length (acc.map intV)∧Below w.heap.size w wr) (fun _ i _=>c - (intOf i).toNat)
  case atStart=>exact ⟨0,1,[],none,0,by omega,hl0,rfl,rfl,rfl,HT,HAL.out.1.1,HAL.out.1.2.1,HAL.out.1.2.2,World.ownsRow_nil _ _ _ _,HAL.out.2.2⟩
  case round =>
    obtain ⟨j,p,acc,aN,cN,hj,hp,hal,rfl,rfl,HN,g0,g1,g2,hown,hw0⟩:=hrel
    have hsz:w.heap.size+3≤wr.heap.size:=zB g2
    have hcw:=((bcell hw0).1 b off hblt).trans hcell
    have hbw:=Nat.lt_of_lt_of_le hblt hw0.size
    obtain ⟨xc0,xc1,xf0,xf1,xlt⟩:=box2 g0
    obtain ⟨nc0,nc1,nf0,nf1,nlt⟩:=box2 g1
    obtain ⟨fc0,fc1,ff0,ff1,flt⟩:=box2 g2
    have HAl:=Lib.hid hal
    clear hal
    by_cases hlt:j<c
    · have hlt':(j:Int)<(c:Int):=by omega
      have hsl:=fun W=>slice_from (some ⟨b,off,none⟩) bs.length cap p hp W
      have HNu:Hid (∀ W,Below w.heap.size w W → Calls Tryz.prog 170 #[.slice (cutA (some ⟨b,off,none⟩) cap p) (bs.length - p) (cap - p)] W fun e w'=>e=.returned (.tuple #[.int .i64 (numP (bs.drop p)).2.1,.int .i64 (numP (bs.drop p)).2.2,.int .i64 (numP (bs.drop p)).1])∧W=w'):=fun W h=>by
        have:=refNumber_any (cutA (some ⟨b,off,none⟩) cap p) (cap - p) (bs.drop p) W ((HB.out.cut cap p hcap).below h) (by rw [List.length_drop];omega)
        rwa [List.length_drop] at this
      have HG:Hid ((numP (bs.drop p)).1=0 → numsA bs (c - (j+1)) (p+(numP (bs.drop p)).2.2) (acc ++ [((numP (bs.drop p)).2.1:Int)])=T∧p+(numP (bs.drop p)).2.2≤bs.length):=fun h=>by
        refine ⟨?_,?_⟩
        · have:=HN.out
          rwa [show c - j=(c - (j+1))+1 by omega,numsA_go h] at this
        · obtain ⟨rest,h1,_,h3⟩:=numP_zero h
          have:=congrArg List.length h1
          rw [List.length_drop,List.length_append,← h3] at this
          omega
      have HS:Hid ((numP (bs.drop p)).1≠0 → T=((numP (bs.drop p)).1,[],0)):=fun h=>by
        have:=HN.out
        rw [show c - j=(c - (j+1))+1 by omega,numsA_stop h] at this
        exact this.symm
      clear HN
      generalize numP (bs.drop p)=r at HNu HG HS
      obtain ⟨re,rv,rn⟩:=r
      simp only at HNu HG HS
      generalize cutA (some ⟨b,off,none⟩) cap p=A at hsl HNu
      by_cases he:re=0
      · subst he
        have HG1:Hid (numsA bs (c - (j+1)) (p+rn) (acc ++ [(rv:Int)])=T):=(HG.out rfl).1
        have hpr:=(HG.out rfl).2
        have hpr':(p:Int)+(rn:Int)≤(bs.length:Int):=by omega
        have hacc:acc.length≤255:=by have:=HAl.out;omega
        clear HG HS
        go_wp2_with (first
          | (go_at_call 170;refine (HNu.out _ hw0).mono ?_;rintro en w1 ⟨rfl,rfl⟩)
          | (at_builtin;refine zF rfl (.tmp 40) (.tmp 42) rfl elemI (w.heap.size+3) (.slice aN acc.length cN) acc.length (acc.map intV) (by rfl) (zD hown (zC wr (.cells #[.int .i64 rv] 3))) (some ⟨wr.heap.size,0,none⟩) 1 1 [.int .i64 rv] (by rfl) (by rfl) (RowAt.new wr #[.int .i64 rv] 3) (intV_one [(rv:Int)]) (by unfold maxLen;omega) (by omega) (by simp;omega) (fun h=>by cases h) ?_;intro a2 c2 w2 hown2 hg2 hat2;have hne:∀ k,k<w.heap.size+3 → (Value.slice aN acc.length cN).ownBlock≠some k:=(fun k hk e=>by have:=(hown.lt _ e).1;omega);have hw2:=Below.appended (hw0.alloc hw0.size (.cells #[.int .i64 rv] 3)) (zD hown (zC wr (.cells #[.int .i64 rv] 3))) hg2 (hw0.alloc hw0.size (.cells #[.int .i64 rv] 3)).size (by omega);have x2:=zY hg2 (zH g0 (.cells #[.int .i64 rv] 3)) (hne _ (by omega));have n2:=zY hg2 (zH g1 (.cells #[.int .i64 rv] 3)) (hne _ (by omega));have f2:=zY hg2 (zH g2 (.cells #[.int .i64 rv] 3)) (hne _ (by omega));obtain ⟨fd0,fd1,fh0,fh1,flt2⟩:=box2 f2))
        have hl1:(acc ++ [(rv:Int)]).length=acc.length+1:=by simp
        have hown3:(w2.setCell ⟨w.heap.size+2,0,none⟩ (.slice a2 (acc.length+1) c2)).ownsRow (w.heap.size+3) 3 1 (.slice a2 (acc.length+1) c2) (acc.length+1) ((acc ++ [(rv:Int)]).map intV):=ownsRow_setCell_below (by rw [List.map_append];exact hown2) (a:=⟨w.heap.size+2,0,none⟩) (by show w.heap.size+2<_;omega) _
        have f3:=zQ (i:=0) f2 (.slice a2 (acc.length+1) c2)
        have x3:=zL (i:=0) x2 (G:=w.heap.size+2) (by omega) (.slice a2 (acc.length+1) c2)
        have n3:=zL (i:=0) n2 (G:=w.heap.size+2) (by omega) (.slice a2 (acc.length+1) c2)
        have hw3:=hw2.setCell (p:=⟨w.heap.size+2,0,none⟩) (by show w.heap.size≤w.heap.size+2;omega) (.slice a2 (acc.length+1) c2)
        go_roundw
        case rel=>exact ⟨j+1,p+rn,acc ++ [(rv:Int)],a2,c2,by omega,hpr,by rw [hl1,HAl.out],by go_num,by go_num,HG1,x3,n3,by rw [hl1];exact f3,by rw [hl1];exact hown3,hw3⟩
        case measure=>simp [intOf];omega
      · have he1:(re != 0)=true:=by simpa using he
        have HRet:Hid (cutP bs=(re,[],[],0)):=by rw [Hid,HC.out,HS.out he,if_neg he]
        clear HG HS he
        go_wp2_with (go_at_call 170;refine (HNu.out _ hw0).mono ?_;rintro en w1 ⟨rfl,rfl⟩)
        obtain ⟨q0,q1,_⟩:=box2 (zAA (g0) (.slice none 0 0) (.slice none 0 0))
        refine bodyPost_ret (v:=.tuple #[.agg #[.slice none 0 0,.slice none 0 0],.int .i64 0,.int .i64 re]) (by simp [results,Tryz.results163,go_sem,q0,q1]) rfl ?_
        rw [HRet.out]
        exact RetCut.none _ rfl (zP (hw0) (Nat.le_refl _) _ _)
    · obtain rfl:j=c:=by omega
      have hTT:=HN.out
      rw [Nat.sub_self,show numsA bs 0 p acc=(0,acc,p) from rfl] at hTT
      subst hTT
      have HC2:Hid (cutP bs=tailP bs acc p):=by rw [Hid,HC.out,if_pos rfl]
      clear HC HT HN hlt
      have hnl:decide ((j:Int)<(j:Int))=false:=decide_eq_false (by omega)
      by_cases c1:bs.length<p+2
      · have HRet:Hid (cutP bs=(3,[],[],0)):=by rw [Hid,HC2.out];unfold tailP;rw [if_pos c1]
        have c1':(bs.length:Int) - (p:Int)<2:=by omega
        clear c1
        go_wp2
        obtain ⟨q0,q1,_⟩:=box2 (zAA (g0) (.slice none 0 0) (.slice none 0 0))
        refine bodyPost_ret (v:=.tuple #[.agg #[.slice none 0 0,.slice none 0 0],.int .i64 0,.int .i64 3]) (by simp [results,Tryz.results163,go_sem,q0,q1]) rfl ?_
        rw [HRet.out]
        exact RetCut.none _ rfl (zP (hw0) (Nat.le_refl _) _ _)
      have hTail:tailP bs acc p=(if 4096<szP bs p then (7,[],[],0) else if bs.length<p+2+szP bs p then (3,[],[],0) else (0,acc,(bs.drop (p+2)).take (szP bs p),p+2+szP bs p)):=by unfold tailP;rw [if_neg c1]
      obtain ⟨b1,off1,hb1,_,hcp⟩:=HB.out.at (k:=p) (by omega)
      cases hb1
      obtain ⟨b1,off1,hb1,_,hcq⟩:=HB.out.at (k:=p+1) (by omega)
      cases hb1
      have hcp1:=((bcell hw0).1 b (off+p) hblt).trans hcp
      have hcq1:=((bcell hw0).1 b (off+(p+1)) hblt).trans hcq
      have hx:=(bs.getD p 0).toNat_lt
      have hy:=(bs.getD (p+1) 0).toNat_lt
      unfold szP at hTail
      generalize (bs.getD p 0).toNat=x at hcp1 hx hTail
      generalize (bs.getD (p+1) 0).toNat=y at hcq1 hy hTail
      have c1':decide ((bs.length:Int) - (p:Int)<2)=false:=decide_eq_false (by omega)
      have d1:(0:Int)≤(p:Int)+1:=by omega
      have d2:(p:Int)+1<(bs.length:Int):=by omega
      have d3:((p:Int)+1).toNat=p+1:=by omega
      have d4:(p:Int)<(bs.length:Int):=by omega
      have b1:-9223372036854775808≤(x:Int) * 256∧(x:Int) * 256≤9223372036854775807:=by omega
      have b2:-9223372036854775808≤(p:Int)+1∧(p:Int)+1≤9223372036854775807:=by omega
      have b3:-9223372036854775808≤(x:Int) * 256+(y:Int)∧(x:Int) * 256+(y:Int)≤9223372036854775807:=by omega
      have HW:Hid (IntKind.i64.wrap ((x:Int) * 256)=(x:Int) * 256∧IntKind.i64.wrap ((p:Int)+1)=(p:Int)+1∧IntKind.i64.wrap ((x:Int) * 256+(y:Int))=(x:Int) * 256+(y:Int)∧IntKind.i64.wrap (x:Int)=(x:Int)∧IntKind.i64.wrap (y:Int)=(y:Int)):=⟨zS b1.1 b1.2,zS b2.1 b2.2,zS b3.1 b3.2,zS (by omega) (by omega),zS (by omega) (by omega)⟩
      clear b1 b2 b3 hcp hcq
      by_cases c2:4096<x * 256+y
      · rw [if_pos c2] at hTail
        have HRet:Hid (cutP bs=(7,[],[],0)):=by rw [Hid,HC2.out,hTail]
        have c2':(4096:Int)<(x:Int) * 256+(y:Int):=by omega
        clear hTail c1
        obtain ⟨e1,e2,e3,e4,e5⟩:=HW.out
        go_wp2
        go_quiet (fail)
        clear e1 e2 e3 e4 e5
        go_wp2
        obtain ⟨q0,q1,_⟩:=box2 (zAA (zI g0 nq) (.slice none 0 0) (.slice none 0 0))
        refine bodyPost_ret (v:=.tuple #[.agg #[.slice none 0 0,.slice none 0 0],.int .i64 0,.int .i64 7]) (by simp [results,Tryz.results163,go_sem,q0,q1]) rfl ?_
        rw [HRet.out]
        exact RetCut.none _ rfl (zP (Below.many hw0 nq) (Nat.le_refl _) _ _)
      rw [if_neg c2] at hTail
      have c2':decide ((4096:Int)<(x:Int) * 256+(y:Int))=false:=decide_eq_false (by omega)
      by_cases c3:bs.length<p+2+(x * 256+y)
      · rw [if_pos c3] at hTail
        have HRet:Hid (cutP bs=(3,[],[],0)):=by rw [Hid,HC2.out,hTail]
        have c3':(bs.length:Int) - ((p:Int)+2)<(x:Int) * 256+(y:Int):=by omega
        clear hTail c1
        obtain ⟨e1,e2,e3,e4,e5⟩:=HW.out
        go_wp2
        go_quiet (fail)
        clear e1 e2 e3 e4 e5
        go_wp2
        obtain ⟨q0,q1,_⟩:=box2 (zAA (zI g0 nq) (.slice none 0 0) (.slice none 0 0))
        refine bodyPost_ret (v:=.tuple #[.agg #[.slice none 0 0,.slice none 0 0],.int .i64 0,.int .i64 3]) (by simp [results,Tryz.results163,go_sem,q0,q1]) rfl ?_
        rw [HRet.out]
        exact RetCut.none _ rfl (zP (Below.many hw0 nq) (Nat.le_refl _) _ _)
      rw [if_neg c3] at hTail
      have HRet:Hid (cutP bs=(0,acc,(bs.drop (p+2)).take (x * 256+y),p+2+(x * 256+y))):=by rw [Hid,HC2.out,hTail]
      have c3':decide ((bs.length:Int) - ((p:Int)+2)<(x:Int) * 256+(y:Int))=false:=decide_eq_false (by omega)
      have hDl:((bs.drop (p+2)).take (x * 256+y)).length=x * 256+y:=by rw [List.length_take,List.length_drop];omega
      have hDc:=(HB.out.cut cap (p+2) hcap).take (x * 256+y)
      have hDn:=cutA_none (a:=some ⟨b,off,none⟩) (cap:=cap) (l:=p+2) (n:=bs.length) (fun h=>by cases h)
      have hsm:=fun W=>slice_mid (some ⟨b,off,none⟩) bs.length cap (p+2) (p+2+(x * 256+y)) (by omega) (by omega) W
      rw [show ((p+2:Nat):Int)=(p:Int)+2 by omega,show ((p+2+(x * 256+y):Nat):Int)=(p:Int)+2+((x:Int) * 256+(y:Int)) by omega,show p+2+(x * 256+y) - (p+2)=x * 256+y by omega] at hsm
      have b4:-9223372036854775808≤(p:Int)+2+((x:Int) * 256+(y:Int))∧(p:Int)+2+((x:Int) * 256+(y:Int))≤9223372036854775807:=by omega
      have HW4:=Lib.hid (zS b4.1 b4.2)
      have HDl:=Lib.hid hDl
      have HDn:Hid (cutA (some ⟨b,off,none⟩) cap (p+2)=none → x * 256+y=0):=fun h=>by have:=hDn h;omega
      have hs64:x * 256+y≤4096:=by omega
      clear hTail c1 b4 hDn c2 c3 hDl
      generalize (bs.drop (p+2)).take (x * 256+y)=D at HRet HDl hDc
      generalize cutA (some ⟨b,off,none⟩) cap (p+2)=A at hsm hDc HDn
      have HDc:=Lib.hid hDc
      clear hDc
      obtain ⟨e1,e2,e3,e4,e5⟩:=HW.out
      go_wp2
      go_quiet (fail)
      clear e1 e2 e3 e4 e5
      go_wp2
      have e6:=HW4.out
      go_region_law (first
        | (refine zAV rfl (.const (.slice none 0 0)) (.tmp 86) rfl elemB 0 (.slice none 0 0) 0 [] (by rfl) (World.ownsRow_nil _ _ _ _) A (x * 256+y) (cap - (p+2)) (D.map zX) (by rfl) (by have:=HDl.out;simp;omega) (HDc.out.below hw0) (zAS _) (by unfold maxLen;omega) (by omega) (by omega) HDn.out ?_;intro a2 c2 w2 hown2 hg2 hat2)
        | (refine zAV rfl (.tmp 80) (.tmp 86) rfl elemB (w.heap.size+3) (.slice none 0 0) 0 [] (by rfl) (World.ownsRow_nil _ _ _ _) A (x * 256+y) (cap - (p+2)) (D.map zX) (by rfl) (by have:=HDl.out;simp;omega) (HDc.out.below (Below.many hw0 nq).drew) (zAS _) (by unfold maxLen;omega) (by omega) (by simp;omega) HDn.out ?_;intro a2 c2 w2 hown2 hg2 hat2;simp only [Nat.zero_add,List.nil_append] at hown2;have hw2:=Below.appended (Below.many hw0 nq).drew (World.ownsRow_nil (wr.drewN nq).drew (w.heap.size+3) 5 1) hg2 (Below.many hw0 nq).drew.size (by omega);have x2:=zY hg2 (zM (zI g0 nq)) (by simp [Value.ownBlock]);have f2:=zY hg2 (zM (zI g2 nq)) (by simp [Value.ownBlock]);have hgs:=hg2.size;obtain ⟨fd0,fd1,fh0,fh1,flt2⟩:=box2 f2))
      clear e6
      have hW3:w.heap.size+3≤w2.heap.size:=flt2
      have f3:=zQ (i:=1) f2 (.slice a2 (x * 256+y) c2)
      have x3:=zL (i:=1) x2 (G:=w.heap.size+2) (by omega) (.slice a2 (x * 256+y) c2)
      have hw3:=hw2.setCell (p:=⟨w.heap.size+2,1,none⟩) (by show w.heap.size≤w.heap.size+2;omega) (.slice a2 (x * 256+y) c2)
      have own3:=World.ownsRow.kept (own_drawn (zAG hown nq)) hg2 (by
        cases h:(Value.slice aN acc.length cN).ownBlock with
        | none=>exact .inl rfl
        | some g=>exact .inr (fun h=>by simp [Value.ownBlock] at h))
      obtain ⟨xd0,xd1,xe0,xe1,xlt3⟩:=box2 x3
      obtain ⟨fe0,fe1,fi0,fi1,flt3⟩:=box2 f3
      go_wp2
      obtain ⟨q0,q1,_⟩:=box2 (zAA x3 (.slice aN acc.length cN) (.slice a2 (x * 256+y) c2))
      refine bodyPost_ret (v:=.tuple #[.agg #[.slice aN acc.length cN,.slice a2 (x * 256+y) c2],.int .i64 ((p:Int)+2+((x:Int) * 256+(y:Int))),.int .i64 0]) (by simp [results,Tryz.results163,go_sem,q0,q1]) rfl ?_
      rw [HRet.out]
      refine ⟨aN,cN,a2,c2,?_,?_,?_,zP hw3 (Nat.le_refl _) _ _⟩
      · simp only [HDl.out]
        rw [show ((p+2+(x * 256+y):Nat):Int)=(p:Int)+2+((x:Int) * 256+(y:Int)) by omega]
      · exact zW (base:=w.heap.size+3) (ownsRow_setCell_below (ownsRow_setCell_below (ownsRow_setCell_below own3 (a:=⟨w.heap.size+2,1,none⟩) (by show w.heap.size+2<_;omega) _) (a:=⟨w.heap.size,0,none⟩) (by show w.heap.size<_;omega) _) (a:=⟨w.heap.size,1,none⟩) (by show w.heap.size<_;omega) _) (by omega)
      · simp only [HDl.out]
        exact zW (base:=w.heap.size+3) (ownsRow_setCell_below (ownsRow_setCell_below (ownsRow_setCell_below hown2 (a:=⟨w.heap.size+2,1,none⟩) (by show w.heap.size+2<_;omega) _) (a:=⟨w.heap.size,0,none⟩) (by show w.heap.size<_;omega) _) (a:=⟨w.heap.size,1,none⟩) (by show w.heap.size<_;omega) _) (by omega)
set_option maxRecDepth 100000 in
set_option maxHeartbeats 3200000 in
theorem refUnpack_any (a:Option Addr) (cap:Nat) (bs:List UInt8) (w:World) (hb:CellsB w a bs) (hcap:bs.length≤cap) (hz:a=none → bs.length=0) (hlm:bs.length≤1000000) :
    Calls Tryz.prog 151 #[.slice a bs.length cap] w (RetUn (zBD bs) w):=by
  have HC:Hid (∀ W,Below w.heap.size w W → Calls Tryz.prog 163 #[.slice a bs.length cap] W (RetCut (cutP bs) W)):=fun W h=>refCut_any a cap bs W (hb.below h) hcap hz hlm
  clear hb hz
  have hu:zBD bs=zBD bs:=rfl
  rw (config:={ occs:=.pos [2] }) [zBD] at hu
  rw [hu]
  clear hu
  generalize cutP bs=r at HC
  obtain ⟨re,r1,r2,rn⟩:=r
  simp only
  by_cases he:re=0
  · subst he
    by_cases hn:rn=bs.length
    · rw [if_neg (fun h=>h.2 hn)]
      have hn1:((rn:Int) != (bs.length:Int))=false:=by simp [hn]
      have HN:=Lib.hid hn
      clear hn
      go_enter Tryz.func151,Tryz.ntmps151
      go_wp2_with (go_at_call 163;refine (HC.out _ (zC _ _)).mono ?_;rintro en w1 ⟨a1,c1,a2,c2,rfl,own1,own2,hb1⟩;have hw1:=zJ hb1;have g0:=zA hb1 (zG w _);obtain ⟨hc0,hc1,hf0,hf1,hlt0⟩:=box2 g0;have g1:=zG w1 (.cells #[.slice a1 r1.length c1,.slice a2 r2.length c2] 153);obtain ⟨fc0,fc1,ff0,ff1,flt⟩:=box2 g1;have g2:=zH g0 (.cells #[.slice a1 r1.length c1,.slice a2 r2.length c2] 153))
      obtain ⟨q0,q1,_⟩:=box2 (zH (zAA g0 (.slice a1 r1.length c1) (.slice a2 r2.length c2)) (.cells #[.slice a1 r1.length c1,.slice a2 r2.length c2] 153))
      refine bodyPost_ret (v:=.tuple #[.agg #[.slice a1 r1.length c1,.slice a2 r2.length c2],.int .i64 0]) (by simp [results,Tryz.results151,go_sem,q0,q1]) rfl ?_
      have hs1:=hw1.size
      have o1:=zW (base':=w.heap.size+1) own1 (by simp)
      have o2:=zW (base':=w.heap.size+1) own2 (by simp)
      exact ⟨a1,c1,a2,c2,rfl,zW (zD (ownsRow_setCell_below (ownsRow_setCell_below o1 (a:=⟨w.heap.size,0,none⟩) (by show w.heap.size<_;omega) _) (a:=⟨w.heap.size,1,none⟩) (by show w.heap.size<_;omega) _) (zC _ _)) (by omega),zW (zD (ownsRow_setCell_below (ownsRow_setCell_below o2 (a:=⟨w.heap.size,0,none⟩) (by show w.heap.size<_;omega) _) (a:=⟨w.heap.size,1,none⟩) (by show w.heap.size<_;omega) _) (zC _ _)) (by omega),(zP hw1 (Nat.le_refl _) _ _).alloc (zP hw1 (Nat.le_refl _) _ _).size _⟩
    · rw [if_pos ⟨rfl,hn⟩]
      have hn1:((rn:Int) != (bs.length:Int))=true:=by simp;omega
      clear hn
      go_enter Tryz.func151,Tryz.ntmps151
      go_wp2_with (go_at_call 163;refine (HC.out _ (zC _ _)).mono ?_;rintro en w1 ⟨a1,c1,a2,c2,rfl,own1,own2,hb1⟩;have hw1:=zJ hb1;have g0:=zA hb1 (zG w _);obtain ⟨hc0,hc1,hf0,hf1,hlt0⟩:=box2 g0;have g1:=zG w1 (.cells #[.slice a1 r1.length c1,.slice a2 r2.length c2] 153);obtain ⟨fc0,fc1,ff0,ff1,flt⟩:=box2 g1;have g2:=zH g0 (.cells #[.slice a1 r1.length c1,.slice a2 r2.length c2] 153))
      obtain ⟨q0,q1,_⟩:=box2 (zH (zAA g0 (.slice none 0 0) (.slice none 0 0)) (.cells #[.slice a1 r1.length c1,.slice a2 r2.length c2] 153))
      refine bodyPost_ret (v:=.tuple #[.agg #[.slice none 0 0,.slice none 0 0],.int .i64 2]) (by simp [results,Tryz.results151,go_sem,q0,q1]) rfl ?_
      exact RetUn.none 2 rfl ((zP hw1 (Nat.le_refl _) _ _).alloc (zP hw1 (Nat.le_refl _) _ _).size _)
  · rw [if_neg (fun h=>he h.1)]
    have he1:(re == 0)=false:=by simpa using he
    clear he
    go_enter Tryz.func151,Tryz.ntmps151
    go_wp2_with (go_at_call 163;refine (HC.out _ (zC _ _)).mono ?_;rintro en w1 ⟨a1,c1,a2,c2,rfl,own1,own2,hb1⟩;have hw1:=zJ hb1;have g0:=zA hb1 (zG w _);obtain ⟨hc0,hc1,hf0,hf1,hlt0⟩:=box2 g0;have g1:=zG w1 (.cells #[.slice a1 r1.length c1,.slice a2 r2.length c2] 153);obtain ⟨fc0,fc1,ff0,ff1,flt⟩:=box2 g1;have g2:=zH g0 (.cells #[.slice a1 r1.length c1,.slice a2 r2.length c2] 153))
    obtain ⟨q0,q1,_⟩:=box2 (zH (zAA g0 (.slice a1 r1.length c1) (.slice a2 r2.length c2)) (.cells #[.slice a1 r1.length c1,.slice a2 r2.length c2] 153))
    refine bodyPost_ret (v:=.tuple #[.agg #[.slice a1 r1.length c1,.slice a2 r2.length c2],.int .i64 re]) (by simp [results,Tryz.results151,go_sem,q0,q1]) rfl ?_
    have hs1:=hw1.size
    have o1:=zW (base':=w.heap.size+1) own1 (by simp)
    have o2:=zW (base':=w.heap.size+1) own2 (by simp)
    exact ⟨a1,c1,a2,c2,rfl,zW (zD (ownsRow_setCell_below (ownsRow_setCell_below o1 (a:=⟨w.heap.size,0,none⟩) (by show w.heap.size<_;omega) _) (a:=⟨w.heap.size,1,none⟩) (by show w.heap.size<_;omega) _) (zC _ _)) (by omega),zW (zD (ownsRow_setCell_below (ownsRow_setCell_below o2 (a:=⟨w.heap.size,0,none⟩) (by show w.heap.size<_;omega) _) (a:=⟨w.heap.size,1,none⟩) (by show w.heap.size<_;omega) _) (zC _ _)) (by omega),(zP hw1 (Nat.le_refl _) _ _).alloc (zP hw1 (Nat.le_refl _) _ _).size _⟩
end Go.Proofs.YtnljdkglncmfaaaGreat
