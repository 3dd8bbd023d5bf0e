/-
  Part Va of the proof.
-/
import Derived.Test.YtnljdkglncmfaaaGreatVaultM
import Derived.Test.YtnljdkglncmfaaaGreatFb
import Derived.Test.YtnljdkglncmfaaaGreatBr
import Derived.Deep.CutBlock
namespace Go.Proofs.YtnljdkglncmfaaaGreat
open Go.RowKit
set_option linter.unusedVariables false
theorem RowAt.only {R:Nat} {w w':World} {A:Option Addr} {xs:List Value} (h:RowAt w A xs) (hb:Only R w w') (hf:∀ b o,A=some ⟨b,o,none⟩ → b≠R):RowAt w' A xs:=by
  rcases h with h | ⟨b,off,ha,hlt,hc⟩
  · exact .inl h
  · refine .inr ⟨b,off,ha,Nat.lt_of_lt_of_le hlt hb.size,fun i u hi => ?_⟩
    rw [← hc i u hi]
    simp only [World.cell?,hb.block b hlt (hf b off ha)]
theorem LogIn.only {R:Nat} {w w':World} {a:Option Addr} {cap:Nat} {l:List En} (h:LogIn w a cap l) (hb:Only R w w') (hf:∀ b o,a=some ⟨b,o,none⟩ → b≠R):LogIn w' a cap l:=⟨h.row.only hb hf,h.cap,h.none_,h.max⟩
theorem row_newB (w:World) (o:Obj) (cs:Array Value) (t:TypeId):RowAt ((w.alloc o).alloc (.cells cs t)) (some ⟨w.heap.size+1,0,none⟩) cs.toList:=by
  have:=RowAt.new (w.alloc o) cs t
  simpa using this
def Out (P:Nat → Prop) (A:Option Addr) (n:Nat):Prop:=n≠0 → ∀ b o,A=some ⟨b,o,none⟩ → P b
def RvAt (w:World) (R:Nat) (P:Nat → Prop) (x:Vt):Prop:=∃ D cd A c,w.heap[R]?=some (.cells #[.slice D x.1.length cd,.int .i64 (x.2.1:Nat),.int .i64 x.2.2.1,.int .i64 x.2.2.2.1,.slice A x.2.2.2.2.length c] 93)∧CellsB w D x.1∧(D=none → x.1.length=0)∧x.1.length≤cd∧Out P D x.1.length∧LogIn w A c x.2.2.2.2∧Out P A x.2.2.2.2.length
theorem row_out {w w':World} {V n:Nat} {P:Nat → Prop} {A:Option Addr} {xs:List Value} (h:RowAt w A xs) (hb:Only V w w') (ho:Out P A n) (h0:n=0 → xs=[]) (hV:¬ P V):RowAt w' A xs:=by
  by_cases hn:n=0
  · exact .inl (h0 hn)
  · refine h.only hb fun b o ha => ?_
    have:=ho hn b o ha
    exact fun e=>hV (e ▸ this)
theorem ens_nil {l:List En} (h:l.length=0):ensV l=[]:=by rw [List.eq_nil_of_length_eq_zero h];rfl
theorem LogIn.out {w w':World} {V:Nat} {P:Nat → Prop} {A:Option Addr} {c:Nat} {l:List En} (h:LogIn w A c l) (hb:Only V w w') (ho:Out P A l.length) (hV:¬ P V):LogIn w' A c l:=⟨row_out h.row hb ho ens_nil hV,h.cap,h.none_,h.max⟩
theorem bytes_out {w w':World} {V:Nat} {P:Nat → Prop} {A:Option Addr} {bs:List UInt8} (h:CellsB w A bs) (hb:Only V w w') (ho:Out P A bs.length) (hV:¬ P V):CellsB w' A bs:=row_out h hb ho (fun h=>by rw [List.eq_nil_of_length_eq_zero h];rfl) hV
theorem RvAt.only {w w':World} {R V:Nat} {P:Nat → Prop} {x:Vt} (h:RvAt w R P x) (hb:Only V w w') (hne:R≠V) (hV:¬ P V):RvAt w' R P x:=by
  obtain ⟨D,cd,A,c,g,p1,p2,p3,p4,p5,p6⟩:=h
  exact ⟨D,cd,A,c,hb.keep g hne,bytes_out p1 hb p4 hV,p2,p3,p4,p5.out hb p6 hV,p6⟩
theorem RvAt.below {w w':World} {R:Nat} {P:Nat → Prop} {x:Vt} (h:RvAt w R P x) (hb:Below w.heap.size w w'):RvAt w' R P x:=by
  obtain ⟨D,cd,A,c,g,p1,p2,p3,p4,p5,p6⟩:=h
  exact ⟨D,cd,A,c,zA hb g,p1.below hb,p2,p3,p4,p5.below hb,p6⟩
theorem recZ_ok {k:Int} {ns:List Int} (h:RecOk k ns):recZ k ns=recB k ns∧recZok k ns=true:=by
  have hp:=rec_pack h.2.2.1 h.2.2.2
  refine ⟨?_,?_⟩
  · unfold recZ
    rw [if_pos hp]
    exact recP_eq h
  · unfold recZok
    rw [decide_eq_true hp,packB_eq hp,decide_eq_true (rec_put h)]
    rfl
def six (e:En):List Int:=[e.2.1,e.2.2.1,e.2.2.2.1,e.2.2.2.2.1,e.2.2.2.2.2.1,e.2.2.2.2.2.2]
theorem recZok_six (e:En):recZok 2 (six e)=decide (zBO e):=by
  by_cases h:zBO e
  · rw [decide_eq_true h]
    exact (recZ_ok ⟨by omega,by omega,Nat.le_of_ble_eq_true rfl,h⟩).2
  · rw [decide_eq_false h]
    unfold recZok
    rw [decide_eq_false (fun hp=>h (packE_zero (f:=(six e,[])) hp).2.2)]
    rfl
set_option maxRecDepth 100000 in
set_option maxHeartbeats 12800000 in
theorem refSave_any (R : Nat) (P : Nat → Prop) (x : Vt) (t v bb bt : Int) (a : Option Addr) (cap : Nat) (l : List En) (w : World) (h : RvAt w R P x) (hnR : ¬ P R) (hRw0 : R < w.heap.size) (hP0 : ∀ y, w.heap.size ≤ y → P y) (hl : LogIn w a cap l) (ho : Out P a l.length) (hwf : ∀ e ∈ l, EnWf e) (hx : VtOk x) (hl65 : x.1.length ≤ 65536) :
    Calls Tryz.prog 112 #[.pointer (some ⟨R,0,none⟩),zV t v,logV bb bt a l.length cap] w fun e w'=>e=.returned (.int .i64 (saveE x t v bb bt l))∧RvAt w' R P (saveV x t v bb bt l)∧Only R w w':=by
  have HV:Hid (∀ W,Calls Tryz.prog 73 #[zV t v] W fun e w'=>e=.returned (.bool (mayV t v))∧Below W.heap.size W w'):=fun W=>refMayV_any t v W
  have HL:Hid (∀ W,Below w.heap.size w W → Calls Tryz.prog 74 #[logV bb bt a l.length cap] W fun e w'=>e=.returned (.bool (mayL bb bt l))∧Below W.heap.size W w'):=fun W h=>refMay_any bb bt a cap l W (hl.below h)
  have hRw:R<w.heap.size:=by omega
  by_cases hg:mayV t v=true∧mayL bb bt l=true∧bb=0
  rotate_left 1
  · have he:=saveE_bad (x:=x) (t:=t) (v:=v) (b:=bb) (bt:=bt) (l:=l) (fun h=>hg ⟨h.1,h.2.1,h.2.2.1⟩)
    rw [saveV_no (x:=x) (by rw [he];decide),he]
    suffices hs:Calls Tryz.prog 112 #[.pointer (some ⟨R,0,none⟩),zV t v,logV bb bt a l.length cap] w fun e w'=>e=.returned (.int .i64 1)∧Below w.heap.size w w' from hs.mono fun e w' ⟨h1,h2⟩=>⟨h1,h.below h2,Only.of_below h2⟩
    clear he h hl ho hwf hx hl65
    generalize mayV t v=p at HV hg
    generalize mayL bb bt l=q at HL hg
    cases p with
    | false =>
      clear hg
      go_enter Tryz.func112,Tryz.ntmps112
      go_wp2_with (first
        | (go_at_call 73;refine (HV.out _).mono ?_;rintro e w1 ⟨rfl,hb1⟩;have hw1:=(zAE w (.cells #[.int .i64 t,.int .i64 v] 34) (.cells #[.int .i64 bb,.int .i64 bt,.slice a l.length cap] 55)).trans (hb1.mono (zAE w _ _).size);have gb:=zA hb1 (zT w (.cells #[.int .i64 t,.int .i64 v] 34) (.cells #[.int .i64 bb,.int .i64 bt,.slice a l.length cap] 55));have gl:=zA hb1 (zR w (.cells #[.int .i64 t,.int .i64 v] 34) (.cells #[.int .i64 bb,.int .i64 bt,.slice a l.length cap] 55));obtain ⟨bc0,bc1,_,_,blt⟩:=box2 gb;obtain ⟨lc0,lc1,lc2,_,_,_,llt⟩:=box3 gl)
        | (go_at_call 74;refine (HL.out _ hw1).mono ?_;rintro e w2 ⟨rfl,hb2⟩;have hw2:=hw1.trans (hb2.mono hw1.size);replace gb:=zA hb2 gb;replace gl:=zA hb2 gl;have hz2:w.heap.size+2≤w2.heap.size:=zB gl;obtain ⟨bc0,bc1,_,_,blt⟩:=box2 gb;obtain ⟨lc0,lc1,lc2,_,_,_,llt⟩:=box3 gl))
      go_ret
      exact ⟨rfl,hw2⟩
    | true =>
      cases q with
      | false =>
        clear hg
        go_enter Tryz.func112,Tryz.ntmps112
        go_wp2_with (first
          | (go_at_call 73;refine (HV.out _).mono ?_;rintro e w1 ⟨rfl,hb1⟩;have hw1:=(zAE w (.cells #[.int .i64 t,.int .i64 v] 34) (.cells #[.int .i64 bb,.int .i64 bt,.slice a l.length cap] 55)).trans (hb1.mono (zAE w _ _).size);have gb:=zA hb1 (zT w (.cells #[.int .i64 t,.int .i64 v] 34) (.cells #[.int .i64 bb,.int .i64 bt,.slice a l.length cap] 55));have gl:=zA hb1 (zR w (.cells #[.int .i64 t,.int .i64 v] 34) (.cells #[.int .i64 bb,.int .i64 bt,.slice a l.length cap] 55));obtain ⟨bc0,bc1,_,_,blt⟩:=box2 gb;obtain ⟨lc0,lc1,lc2,_,_,_,llt⟩:=box3 gl)
          | (go_at_call 74;refine (HL.out _ hw1).mono ?_;rintro e w2 ⟨rfl,hb2⟩;have hw2:=hw1.trans (hb2.mono hw1.size);replace gb:=zA hb2 gb;replace gl:=zA hb2 gl;have hz2:w.heap.size+2≤w2.heap.size:=zB gl;obtain ⟨bc0,bc1,_,_,blt⟩:=box2 gb;obtain ⟨lc0,lc1,lc2,_,_,_,llt⟩:=box3 gl))
        go_ret
        exact ⟨rfl,hw2⟩
      | true =>
        have hbb:(bb != 0)=true:=by simpa using fun h=>hg ⟨rfl,rfl,h⟩
        clear hg
        go_enter Tryz.func112,Tryz.ntmps112
        go_wp2_with (first
          | (go_at_call 73;refine (HV.out _).mono ?_;rintro e w1 ⟨rfl,hb1⟩;have hw1:=(zAE w (.cells #[.int .i64 t,.int .i64 v] 34) (.cells #[.int .i64 bb,.int .i64 bt,.slice a l.length cap] 55)).trans (hb1.mono (zAE w _ _).size);have gb:=zA hb1 (zT w (.cells #[.int .i64 t,.int .i64 v] 34) (.cells #[.int .i64 bb,.int .i64 bt,.slice a l.length cap] 55));have gl:=zA hb1 (zR w (.cells #[.int .i64 t,.int .i64 v] 34) (.cells #[.int .i64 bb,.int .i64 bt,.slice a l.length cap] 55));obtain ⟨bc0,bc1,_,_,blt⟩:=box2 gb;obtain ⟨lc0,lc1,lc2,_,_,_,llt⟩:=box3 gl)
          | (go_at_call 74;refine (HL.out _ hw1).mono ?_;rintro e w2 ⟨rfl,hb2⟩;have hw2:=hw1.trans (hb2.mono hw1.size);replace gb:=zA hb2 gb;replace gl:=zA hb2 gl;have hz2:w.heap.size+2≤w2.heap.size:=zB gl;obtain ⟨bc0,bc1,_,_,blt⟩:=box2 gb;obtain ⟨lc0,lc1,lc2,_,_,_,llt⟩:=box3 gl))
        go_ret
        exact ⟨rfl,hw2⟩
  obtain ⟨h1,h2,rfl⟩:=hg
  have hl64:=(zAB h2).2.2.2.2.2.1
  have hl64i:(l.length:Int)≤64:=by omega
  have HBAD:Hid (¬ (∀ e ∈ l,zBO e) → saveE x t v 0 bt l=1∧saveV x t v 0 bt l=x):=fun hn=>by
    have he:=saveE_bad (x:=x) (t:=t) (v:=v) (b:=0) (bt:=bt) (l:=l) (fun h=>hn h.2.2.2)
    exact ⟨he,saveV_no (x:=x) (by rw [he];decide)⟩
  have HGOOD:Hid ((∀ e ∈ l,zBO e) → saveE x t v 0 bt l=if 65536<(x.1 ++ saveB x.2.2 t v l).length then 7 else 0):=fun hf=>saveE_ok ⟨h1,h2,rfl,hf⟩
  have HRV:=Lib.hid h
  obtain ⟨D,cd,A,c,g,hD,hDz,hDc,hDo,hLs,hLo⟩:=h
  obtain ⟨bs,n0,t0,v0,es⟩:=x
  simp only at g hD hDz hDc hDo hLs hLo hl65 HBAD HGOOD
  have hes64:es.length≤64:=held_le hx
  rw [h1] at HV
  rw [h2] at HL
  have HWF:=Lib.hid hwf
  have HH1:=Lib.hid h1
  have HH2:=Lib.hid h2
  have HHX:=Lib.hid hx
  have HREC:Hid (∀ W k a c ns,IntsIn W a c ns → Calls Tryz.prog 132 #[.int .i64 k,.slice a ns.length c] W (RetRowOk 5 1 (recZ k ns).length ((recZ k ns).map zX) (recZok k ns) W)):=fun W k a c ns h=>refRecord_any k a c ns W h
  clear h1 h2 hx hwf hl64
  go_enter Tryz.func112,Tryz.ntmps112
  go_upto_block 0 with (first
    | (go_at_call 73;refine (HV.out _).mono ?_;rintro e w1 ⟨rfl,hb1⟩;have hw1:=(zAE w (.cells #[.int .i64 t,.int .i64 v] 34) (.cells #[.int .i64 0,.int .i64 bt,.slice a l.length cap] 55)).trans (hb1.mono (zAE w _ _).size);have gb:=zA hb1 (zT w (.cells #[.int .i64 t,.int .i64 v] 34) (.cells #[.int .i64 0,.int .i64 bt,.slice a l.length cap] 55));have gl:=zA hb1 (zR w (.cells #[.int .i64 t,.int .i64 v] 34) (.cells #[.int .i64 0,.int .i64 bt,.slice a l.length cap] 55));obtain ⟨bc0,bc1,_,_,blt⟩:=box2 gb;obtain ⟨lc0,lc1,lc2,_,_,_,llt⟩:=box3 gl)
    | (go_at_call 74;refine (HL.out _ hw1).mono ?_;rintro e w2 ⟨rfl,hb2⟩;have hw2:=hw1.trans (hb2.mono hw1.size);replace gb:=zA hb2 gb;replace gl:=zA hb2 gl;have hz2:w.heap.size+2≤w2.heap.size:=zB gl;obtain ⟨bc0,bc1,_,_,blt⟩:=box2 gb;obtain ⟨lc0,lc1,lc2,_,_,_,llt⟩:=box3 gl))
  have hsv:SvAt w R (.cells #[.slice D bs.length cd,.int .i64 (n0:Nat),.int .i64 t0,.int .i64 v0,.slice A es.length c] 93) (.cells #[.int .i64 t,.int .i64 v] 34) (.cells #[.int .i64 0,.int .i64 bt,.slice a l.length cap] 55) w2:=⟨zA hw2 g,gb,gl,hz2,hw2⟩
  clear gb gl
  go_cut [] (fun wx=>Hid (∀ e ∈ l,zBO e)∧SvAt w R (.cells #[.slice D bs.length cd,.int .i64 (n0:Nat),.int .i64 t0,.int .i64 v0,.slice A es.length c] 93) (.cells #[.int .i64 t,.int .i64 v] 34) (.cells #[.int .i64 0,.int .i64 bt,.slice a l.length cap] 55) wx)
  case first =>
    go_wp2
    go_loopw [9] (fun i wr=>∃ k:Nat,k≤l.length∧i=.int .i64 k∧Hid (∀ e ∈ l.take k,zBO e)∧SvAt w R (.cells #[.slice D bs.length cd,.int .i64 (n0:Nat),.int .i64 t0,.int .i64 v0,.slice A es.length c] 93) (.cells #[.int .i64 t,.int .i64 v] 34) (.cells #[.int .i64 0,.int .i64 bt,.slice a l.length cap] 55) wr) (fun i _=>l.length - (intOf i).toNat)
    case atStart=>exact ⟨0,by omega,rfl,fun e he=>by simp at he,hsv⟩
    case round =>
      clear bc0 bc1 lc0 lc1 lc2
      obtain ⟨k,hk,rfl,HF,hsvr⟩:=hrel
      obtain ⟨gV,g0,g1,hsr,hwr⟩:=id hsvr
      obtain ⟨lc0,lc1,lc2,lf0,lf1,lf2,llt⟩:=box3 g1
      have hk0:(0:Int)≤(k:Int):=by omega
      by_cases hlt:k<l.length
      · obtain ⟨eb,eoff,rfl,hebl,x0,x1,x2,x3,x4,x5,x6⟩:=zAF (hl.row.below hwr) hlt
        have HW3:=zS (x:=(k:Int)+1) (by omega) (by omega)
        have HMEM:Hid ((l[k]'hlt) ∈ l):=List.getElem_mem hlt
        have HTK:Hid (l.take (k+1)=l.take k ++ [l[k]'hlt]):=by rw [Hid,List.take_add_one,List.getElem?_eq_getElem hlt];rfl
        have HWE:=Lib.hid (HWF.out _ HMEM.out)
        generalize (l[k]'hlt)=x at x0 x1 x2 x3 x4 x5 x6 HMEM HTK HWE
        obtain ⟨y0,y1,y2,y3,y4,y5,y6⟩:=x
        simp only at x0 x1 x2 x3 x4 x5 x6
        have hk1:(k:Int)<(l.length:Int):=by omega
        have HOK6:Hid (recZok 2 (six (y0,y1,y2,y3,y4,y5,y6))=decide (zBO (y0,y1,y2,y3,y4,y5,y6))):=recZok_six _
        have HIN6:Hid (∀ W:World,∀ o,IntsIn ((W.alloc o).alloc (.cells #[.int .i64 y1,.int .i64 y2,.int .i64 y3,.int .i64 y4,.int .i64 y5,.int .i64 y6] 3)) (some ⟨W.heap.size+1,0,none⟩) 6 (six (y0,y1,y2,y3,y4,y5,y6))):=fun W o=>⟨row_newB W o #[.int .i64 y1,.int .i64 y2,.int .i64 y3,.int .i64 y4,.int .i64 y5,.int .i64 y6] 3,Nat.le_refl _,(fun h=>by cases h),fun n hn=>HWE.out n (by unfold six at hn;unfold zBN;simp only [List.mem_cons,List.not_mem_nil,or_false] at hn ⊢;rcases hn with rfl | rfl | rfl | rfl | rfl | rfl <;> simp)⟩
        have HR6:Hid (∀ W:World,∀ o,Calls Tryz.prog 132 #[.int .i64 2,.slice (some ⟨W.heap.size+1,0,none⟩) 6 6] ((W.alloc o).alloc (.cells #[.int .i64 y1,.int .i64 y2,.int .i64 y3,.int .i64 y4,.int .i64 y5,.int .i64 y6] 3)) fun e w'=>∃ a c n,e=.returned (.tuple #[.slice a n c,.bool (decide (zBO (y0,y1,y2,y3,y4,y5,y6)))])∧Below W.heap.size W w'):=fun W o=>by
          refine (HREC.out _ 2 _ 6 _ (HIN6.out W o)).mono ?_
          rintro e w' ⟨a,c,he,_,hb⟩
          exact ⟨a,c,_,by rw [he,HOK6.out],(zAE W _ _).trans (hb.mono (by simp;omega))⟩
        clear HWE HIN6 HOK6
        by_cases hf:zBO (y0,y1,y2,y3,y4,y5,y6)
        · rw [decide_eq_true hf] at HR6
          have HF2:Hid (∀ e ∈ l.take (k+1),zBO e):=fun e he=>by
            rw [HTK.out,List.mem_append] at he
            rcases he with he | he
            · exact HF.out e he
            · simp only [List.mem_cons,List.not_mem_nil,or_false] at he;subst he;exact hf
          clear hf HTK HMEM
          go_wp2_with (go_at_call 132;refine (HR6.out _ _).mono ?_;rintro e w5 ⟨a5,c5,n5,rfl,hb5⟩)
          exact ⟨⟨k+1,by omega,by simp,HF2,hsvr.keep hRw (hb5.mono hsr)⟩,by simp [intOf];omega⟩
        · rw [decide_eq_false hf] at HR6
          have HB2:=Lib.hid (HBAD.out fun hall=>hf (hall _ HMEM.out))
          clear hf HTK HMEM HBAD HGOOD
          go_wp2_with (go_at_call 132;refine (HR6.out _ _).mono ?_;rintro e w5 ⟨a5,c5,n5,rfl,hb5⟩)
          go_ret
          have hw5:=hwr.trans (hb5.mono hwr.size)
          rw [HB2.out.1,HB2.out.2]
          exact ⟨rfl,HRV.out.below hw5,Only.of_below hw5⟩
      · have hek:k=l.length:=by omega
        have hk1:¬ (k:Int)<(l.length:Int):=by omega
        have HALL:Hid (∀ e ∈ l,zBO e):=by have:=HF.out;rwa [hek,List.take_length] at this
        clear hek
        go_wp2
        go_meet
        exact ⟨HALL,hsvr⟩
  case rest =>
    obtain ⟨HALL,hsv2⟩:=hcut
    have h4:=HALL.out
    have HE:=Lib.hid (HGOOD.out h4)
    have hxs:=HHX.out.held
    have h1:=HH1.out
    have hm0:mayL 0 0 l=true:=by
      obtain ⟨_,_,q1,_,q2,_⟩:=zAB HH2.out
      have q3:=q2 rfl
      have:=HH2.out
      rwa [q3] at this
    have HVV:=@saveV_eq (bs,n0,t0,v0,es) t v 0 bt l
    have HVN:=@saveV_no (bs,n0,t0,v0,es) t v 0 bt l
    have hsb:saveB (t0,v0,es) t v l=saveB (t0,v0,es) t v l:=rfl
    rw (config:={ occs:=.pos [2] }) [saveB] at hsb
    simp only at hsb HE HVV HVN
    have HRO:=Lib.hid (fun i hi=>@ent_rec l hm0 i hi (h4 _ (List.getElem_mem hi)))
    obtain ⟨P,hP⟩:∃ P,P=zAC es l:=⟨_,rfl⟩
    rw [← hP] at hsb
    have HP:=Lib.hid hP
    have hPs:=zDB es l
    rw [← hP] at hPs
    obtain ⟨hP1,hP2,hP3⟩:=hPs
    obtain ⟨Z1,hZ1⟩:∃ Z1,Z1=recB 1 [t,v]:=⟨_,rfl⟩
    obtain ⟨Z3,hZ3⟩:∃ Z3,Z3=recB 3 [((P:Nat):Int)]:=⟨_,rfl⟩
    have hZ1l:Z1.length≤83:=by rw [hZ1];exact (zCP (zCF h1)).2
    have hZ3l:Z3.length≤83:=by rw [hZ3];exact (zCP (left_rec (n:=P) (by omega))).2
    rw [← hZ1,← hZ3] at hsb
    have HRB:Hid (∀ W:World,Calls Tryz.prog 132 #[.int .i64 1,.slice (some ⟨W.heap.size,0,none⟩) 2 2] (W.alloc (.cells #[.int .i64 t,.int .i64 v] 3)) (RetRowOk 5 1 Z1.length (Z1.map zX) true (W.alloc (.cells #[.int .i64 t,.int .i64 v] 3)))):=fun W=>by
      have:=HREC.out (W.alloc (.cells #[.int .i64 t,.int .i64 v] 3)) 1 (some ⟨W.heap.size,0,none⟩) 2 [t,v] ⟨RowAt.new W #[.int .i64 t,.int .i64 v] 3,by simp,by simp,fun n hn=>wf_fair ((zCF h1).2.2.2 n hn)⟩
      rwa [(recZ_ok (zCF h1)).1,(recZ_ok (zCF h1)).2,← hZ1] at this
    have HRL:Hid (∀ W:World,Calls Tryz.prog 132 #[.int .i64 3,.slice (some ⟨W.heap.size,0,none⟩) 1 1] (W.alloc (.cells #[.int .i64 (P:Nat)] 3)) (RetRowOk 5 1 Z3.length (Z3.map zX) true (W.alloc (.cells #[.int .i64 (P:Nat)] 3)))):=fun W=>by
      have:=HREC.out (W.alloc (.cells #[.int .i64 (P:Nat)] 3)) 3 (some ⟨W.heap.size,0,none⟩) 1 [((P:Nat):Int)] ⟨RowAt.new W #[.int .i64 (P:Nat)] 3,by simp,by simp,fun n hn=>wf_fair (by simp at hn;omega)⟩
      rwa [(recZ_ok (left_rec (n:=P) (by omega))).1,(recZ_ok (left_rec (n:=P) (by omega))).2,← hZ3] at this
    obtain ⟨Y1,hY1⟩:∃ Y1,Y1=bs ++ (if t0=t∧v0=v then [] else Z1):=⟨_,rfl⟩
    have hY1l:Y1.length≤bs.length+83:=by
      rw [hY1,List.length_append]
      by_cases hq:t0=t∧v0=v
      · rw [if_pos hq];simp
      · rw [if_neg hq];omega
    obtain ⟨Y2,hY2⟩:∃ Y2,Y2=Y1 ++ (if P<es.length then Z3 else []):=⟨_,rfl⟩
    have hY2l:Y2.length≤bs.length+166:=by
      rw [hY2,List.length_append]
      by_cases hq:P<es.length
      · rw [if_pos hq];omega
      · rw [if_neg hq];simp;omega
    have hY3:bs ++ saveB (t0,v0,es) t v l=Y2 ++ zAW P (l.drop P):=by rw [hsb,hY2,hY1];simp only [List.append_assoc]
    have HY1:=Lib.hid hY1
    have HY2:=Lib.hid hY2
    have HY3:=Lib.hid hY3
    have HVV2:=Lib.hid HVV
    have HVN2:=Lib.hid HVN
    have HD:=Lib.hid hD
    have HDZ:=Lib.hid hDz
    have HLS:=Lib.hid hLs
    clear hsb hY1 hY2 hY3 hP h1 h4 hm0 hZ1 hZ3 HVV HVN hxs HBAD HGOOD hD hDz hLs hw2 hw1 hb1 hb2 bc0 bc1 lc0 lc1 lc2 blt llt hz2 hsv HV HL
    generalize wc=w2 at *
    have hw2:=hsv2.2.2.2.2
    have hs2:=hsv2.2.2.2.1
    obtain ⟨gV,g0,g1,_,_⟩:=id hsv2
    obtain ⟨d0,d1,d2,d3,d4,e0,e1,e2,e3,e4,dlt⟩:=box5 gV
    go_upto_region 13 with (at_builtin;refine zF rfl (.const (.slice none 0 0)) (.tmp 73) rfl elemB w2.heap.size (.slice none 0 0) 0 [] (by rfl) (World.ownsRow_nil _ _ _ _) D bs.length cd (bs.map zX) (by rfl) (by rw [List.length_map,Nat.mul_one]) (HD.out.below hw2) (zAS _) (by unfold maxLen;omega) (by omega) (Nat.le_refl _) HDZ.out ?_;intro D4 c4 w4 own4 hg4 hat4;simp only [Nat.zero_add,List.nil_append] at own4;have hb4:Below w2.heap.size w2 w4:=(zK w2).grown hg4 (Nat.le_refl _) (fun k hk=>by simp [Value.ownBlock] at hk);have hsv4:=hsv2.keep hRw (hb4.mono hs2);have own4':=zW (base':=w.heap.size+2) own4 hs2)
    obtain ⟨gV,g0,g1,hs4,hw4⟩:=id hsv4
    obtain ⟨d0,d1,d2,d3,d4,e0,e1,e2,e3,e4,dlt⟩:=box5 gV
    obtain ⟨b0,b1,bf0,bf1,blt⟩:=box2 g0
    go_cut [81] (fun b wx=>∃ (bq:Bool) (k:Nat),b=.bool bq∧Hid (bq=false ↔ (t0=t∧v0=v))∧wx=w4.drewN k)
    case first =>
      by_cases hq1:t=t0
      · subst hq1
        by_cases hq2:v=v0
        · subst hq2
          go_wp2
          go_quiet (fail)
          go_wp2
          go_meet
          exact ⟨false,_,rfl,by rw [Hid];simp,rfl⟩
        · have hq3:(v == v0)=false:=by rw [beq_eq_false_iff_ne];exact hq2
          have HQ:Hid (true=false ↔ (t=t∧v0=v)):=by rw [Hid];simp;exact fun h=>hq2 h.symm
          clear hq2
          go_wp2
          go_quiet (fail)
          go_wp2
          go_meet
          exact ⟨true,_,rfl,HQ,rfl⟩
      · have hq3:(t == t0)=false:=by rw [beq_eq_false_iff_ne];exact hq1
        have HQ:Hid (true=false ↔ (t0=t∧v0=v)):=by rw [Hid];simp;exact fun h=>(hq1 h.symm).elim
        clear hq1
        go_wp2
        go_quiet (fail)
        go_wp2
        go_meet
        exact ⟨true,_,rfl,HQ,rfl⟩
    case rest =>
      obtain ⟨bq,k4,rfl,HQ,rfl⟩:=hcut
      clear b0 b1 bf0 bf1 blt gV d0 d1 d2 d3 d4 e0 e1 e2 e3 e4 dlt g0 g1 hs4 hw4 hb4 hg4 hat4 own4
      replace hsv4:=hsv4.many k4
      replace own4':=zAG own4' k4
      generalize w4.drewN k4=w4 at *
      go_upto_if 81 with fail
      go_cut [13] (fun d wx=>∃ D7 c7,d=.slice D7 Y1.length c7∧wx.ownsRow (w.heap.size+2) 5 1 (.slice D7 Y1.length c7) Y1.length (Y1.map zX)∧SvAt w R (.cells #[.slice D bs.length cd,.int .i64 (n0:Nat),.int .i64 t0,.int .i64 v0,.slice A es.length c] 93) (.cells #[.int .i64 t,.int .i64 v] 34) (.cells #[.int .i64 0,.int .i64 bt,.slice a l.length cap] 55) wx)
      case first =>
        obtain ⟨gV,g0,g1,hs4,hwW⟩:=id hsv4
        obtain ⟨b0,b1,bf0,bf1,blt⟩:=box2 g0
        cases bq with
        | false =>
          have hYb:Y1=bs:=by rw [HY1.out,if_pos (HQ.out.1 rfl)];simp
          go_wp2
          go_meet
          rw [hYb]
          exact ⟨D4,c4,rfl,own4',hsv4⟩
        | true =>
          have hYb:Y1=bs ++ Z1:=by rw [HY1.out,if_neg (fun h=>by have:=HQ.out.2 h;cases this)]
          have HYB:=Lib.hid hYb
          clear hYb
          go_wp2_with (first
            | (go_at_call 132;refine (HRB.out _).mono ?_;rintro e w5 ⟨a5,c5,rfl,own5,hb5⟩;have hb5':=zJ hb5;have own4b:=zD own4' hb5';have hsz5:=hb5'.size;have hsv5:=hsv4.keep hRw (hb5'.mono hs4))
            | (at_builtin;refine zF rfl (.tmp 91) (.tmp 92) rfl elemB (w.heap.size+2) (.slice D4 bs.length c4) bs.length (bs.map zX) (by rfl) own4b a5 Z1.length c5 (Z1.map zX) (by rfl) (by rw [List.length_map,Nat.mul_one]) (RowAt.of_own own5) (zAS _) (by unfold maxLen;omega) (by omega) (Nat.le_trans hs4 hsz5) (zBL own5) ?_;intro D6 c6 w6 own6 hg6 hat6;have hb6:Below (w.heap.size+2) w5 w6:=Below.appended (Below.refl _ _) own4b hg6 (Nat.le_trans hs4 hsz5) (Nat.le_refl _)))
          go_meet
          rw [HYB.out]
          exact ⟨D6,c6,by rw [List.length_append],by rw [List.length_append,List.map_append];exact own6,hsv5.keep hRw hb6⟩
      case rest =>
        obtain ⟨D7,c7,rfl,own7,hsv7⟩:=hcut
        obtain ⟨w7,hw7⟩:∃ q,q=wc:=⟨_,rfl⟩
        subst hw7
        clear own4' hsv4
        obtain ⟨gV,g0,g1,hs7,hwW⟩:=id hsv7
        obtain ⟨d0,d1,d2,d3,d4,e0,e1,e2,e3,e4,dlt⟩:=box5 gV
        obtain ⟨l0,l1,l2,lf0,lf1,lf2,llt⟩:=box3 g1
        have HCM:Hid (∀ W,Below w7.heap.size w7 W → Calls Tryz.prog 133 #[.slice A es.length c,.slice a l.length cap] W fun e w'=>e=.returned (.int .i64 (P:Nat))∧Below W.heap.size W w'):=fun W hW=>by
          have:=refCommon_any A c es a cap l W ((HLS.out.below hwW).below hW) ((hl.below hwW).below hW) (by omega) (by omega)
          rwa [← HP.out] at this
        go_upto_region 16 with fail
        go_region_held3 (fun W=>W.cell? ⟨R,4,none⟩=some (.slice A es.length c)∧W.cell? ⟨w.heap.size+1,2,none⟩=some (.slice a l.length cap)) (first | exact ⟨f4,m2⟩ | exact ⟨d4,l2⟩) ((go_at_call 133;refine (HCM.out _ (zK _).drew).mono ?_;rintro e w8 ⟨rfl,hb8⟩;have hb8':Below w7.heap.size w7 w8:=(zK _).drew.trans hb8;have hsv8:=hsv7.keep hRw (hb8'.mono hs7);have own8:=zD own7 hb8';obtain ⟨gV8,g08,g18,hs8,hw8⟩:=id hsv8;obtain ⟨f0,f1,f2,f3,f4,_,_,_,_,_,flt⟩:=box5 gV8;obtain ⟨m0,m1,m2,_,_,_,mlt⟩:=box3 g18))
        clear own7 hsv7 gV g0 g1 hs7 hwW d0 d1 d2 d3 d4 e0 e1 e2 e3 e4 dlt l0 l1 l2 lf0 lf1 lf2 llt
        go_upto_if 109 with fail
        go_cut [13] (fun d wx=>∃ D9 c9,d=.slice D9 Y2.length c9∧wx.ownsRow (w.heap.size+2) 5 1 (.slice D9 Y2.length c9) Y2.length (Y2.map zX)∧SvAt w R (.cells #[.slice D bs.length cd,.int .i64 (n0:Nat),.int .i64 t0,.int .i64 v0,.slice A es.length c] 93) (.cells #[.int .i64 t,.int .i64 v] 34) (.cells #[.int .i64 0,.int .i64 bt,.slice a l.length cap] 55) wx)
        case first =>
          by_cases hq:P<es.length
          · have hYb:Y2=Y1 ++ Z3:=by rw [HY2.out,if_pos hq]
            have HYB:=Lib.hid hYb
            clear hYb
            have hq2:(P:Int)<(es.length:Int):=by omega
            go_wp2_with (first
              | (go_at_call 132;refine (HRL.out _).mono ?_;rintro e w5 ⟨a5,c5,rfl,own5,hb5⟩;have hb5':=zJ hb5;have own4b:=zD own8 hb5';have hsz5:=hb5'.size;have hsv5:=hsv8.keep hRw (hb5'.mono hs8))
              | (at_builtin;refine zF rfl (.tmp 116) (.tmp 117) rfl elemB (w.heap.size+2) (.slice D7 Y1.length c7) Y1.length (Y1.map zX) (by rfl) own4b a5 Z3.length c5 (Z3.map zX) (by rfl) (by rw [List.length_map,Nat.mul_one]) (RowAt.of_own own5) (zAS _) (by unfold maxLen;omega) (by omega) (Nat.le_trans hs8 hsz5) (zBL own5) ?_;intro D6 c6 w6 own6 hg6 hat6;have hb6:Below (w.heap.size+2) w5 w6:=Below.appended (Below.refl _ _) own4b hg6 (Nat.le_trans hs8 hsz5) (Nat.le_refl _)))
            go_meet
            rw [HYB.out]
            exact ⟨D6,c6,by rw [List.length_append],by rw [List.length_append,List.map_append];exact own6,hsv5.keep hRw hb6⟩
          · have hYb:Y2=Y1:=by rw [HY2.out,if_neg hq];simp
            have hq2:(es.length:Int)≤(P:Int):=by omega
            go_wp2
            go_meet
            rw [hYb]
            exact ⟨D7,c7,rfl,own8,hsv8⟩
        case rest =>
          obtain ⟨D9,c9,rfl,own9,hsv9⟩:=hcut
          obtain ⟨w9,hw9⟩:∃ q,q=wc:=⟨_,rfl⟩
          subst hw9
          clear own8 hsv8 gV8 g08 g18 hs8 hw8 f0 f1 f2 f3 f4 flt m0 m1 m2 mlt hb8 hb8'
          obtain ⟨Y3,hY3⟩:∃ Y3,Y3=Y2 ++ zAW P (l.drop P):=⟨_,rfl⟩
          have HY3b:=Lib.hid hY3
          clear hY3
          go_upto_block 2 with fail
          go_cut [13] (fun d wx=>∃ D10 c10,d=.slice D10 Y3.length c10∧wx.ownsRow (w.heap.size+2) 5 1 (.slice D10 Y3.length c10) Y3.length (Y3.map zX)∧Y3.length≤100000∧SvAt w R (.cells #[.slice D bs.length cd,.int .i64 (n0:Nat),.int .i64 t0,.int .i64 v0,.slice A es.length c] 93) (.cells #[.int .i64 t,.int .i64 v] 34) (.cells #[.int .i64 0,.int .i64 bt,.slice a l.length cap] 55) wx)
          case first =>
            go_wp2
            go_loopw [13,19] (fun d i wr=>∃ (q:Nat) (Z:List UInt8) (Dz:Option Addr) (cz:Nat),P≤q∧q≤l.length∧i=.int .i64 q∧d=.slice Dz Z.length cz∧Hid (Z=Y2 ++ zAW P ((l.drop P).take (q - P)))∧Z.length≤bs.length+166+q * 83∧wr.ownsRow (w.heap.size+2) 5 1 (.slice Dz Z.length cz) Z.length (Z.map zX)∧SvAt w R (.cells #[.slice D bs.length cd,.int .i64 (n0:Nat),.int .i64 t0,.int .i64 v0,.slice A es.length c] 93) (.cells #[.int .i64 t,.int .i64 v] 34) (.cells #[.int .i64 0,.int .i64 bt,.slice a l.length cap] 55) wr) (fun _ i _=>l.length - (intOf i).toNat)
            case atStart=>exact ⟨P,Y2,D9,c9,by omega,by omega,rfl,rfl,by rw [Hid];simp [zAW],by omega,own9,hsv9⟩
            case round =>
              obtain ⟨q,Z,Dz,cz,hPq,hk,rfl,rfl,HZ,hZl,ownz,hsvz⟩:=hrel
              obtain ⟨gV,g0,g1,hsr,hwr⟩:=id hsvz
              obtain ⟨lc0,lc1,lc2,lf0,lf1,lf2,llt⟩:=box3 g1
              have hk0:(0:Int)≤(q:Int):=by omega
              by_cases hlt:q<l.length
              · obtain ⟨eb,eoff,rfl,hebl,x0,x1,x2,x3,x4,x5,x6⟩:=zAF (hl.row.below hwr) hlt
                have hro:=HRO.out q hlt
                rw [show ((q+1:Nat):Int)=(q:Int)+1 from rfl] at hro
                have hrl:=(zCP hro).2
                have HZ2:Hid (Z ++ recB 2 (zBN ((q:Int)+1) (l[q]'hlt))=Y2 ++ zAW P ((l.drop P).take (q+1 - P))):=by
                  have e1:(l.drop P)[q - P]?=some (l[q]'hlt):=by rw [List.getElem?_drop,show P+(q - P)=q by omega,List.getElem?_eq_getElem hlt]
                  have e2:((l.drop P).take (q - P)).length=q - P:=by rw [List.length_take,List.length_drop];omega
                  rw [Hid,HZ.out,show q+1 - P=(q - P)+1 by omega,List.take_add_one,e1,Option.toList_some,entRecs_snoc,e2,List.append_assoc,show P+(q - P)+1=q+1 by omega]
                  rfl
                have HRK:Hid (∀ W:World,Calls Tryz.prog 132 #[.int .i64 2,.slice (some ⟨W.heap.size,0,none⟩) 8 8] (W.alloc (.cells (zBN ((q:Int)+1) (l[q]'hlt) |>.map intV).toArray 3)) (RetRowOk 5 1 (recB 2 (zBN ((q:Int)+1) (l[q]'hlt))).length ((recB 2 (zBN ((q:Int)+1) (l[q]'hlt))).map zX) true (W.alloc (.cells (zBN ((q:Int)+1) (l[q]'hlt) |>.map intV).toArray 3)))):=fun W=>by
                  have:=HREC.out (W.alloc (.cells (zBN ((q:Int)+1) (l[q]'hlt) |>.map intV).toArray 3)) 2 (some ⟨W.heap.size,0,none⟩) 8 (zBN ((q:Int)+1) (l[q]'hlt)) ⟨RowAt.new W _ 3,Nat.le_refl _,(fun h=>by cases h),fun n hn=>wf_fair (hro.2.2.2 n hn)⟩
                  rwa [(recZ_ok hro).1,(recZ_ok hro).2] at this
                have HW1:=zS (x:=(q:Int)+1) (by omega) (by omega)
                have hk1:(q:Int)<(l.length:Int):=by omega
                clear hro
                generalize hZK:recB 2 (zBN ((q:Int)+1) (l[q]'hlt))=ZK at HZ2 HRK hrl
                clear hZK
                generalize (l[q]'hlt)=x at x0 x1 x2 x3 x4 x5 x6 HRK
                obtain ⟨y0,y1,y2,y3,y4,y5,y6⟩:=x
                simp only at x0 x1 x2 x3 x4 x5 x6
                replace HRK:Hid (∀ W:World,Calls Tryz.prog 132 #[.int .i64 2,.slice (some ⟨W.heap.size,0,none⟩) 8 8] (W.alloc (.cells #[.int .i64 ((q:Int)+1),.int .i64 y0,.int .i64 y1,.int .i64 y2,.int .i64 y3,.int .i64 y4,.int .i64 y5,.int .i64 y6] 3)) (RetRowOk 5 1 ZK.length (ZK.map zX) true (W.alloc (.cells #[.int .i64 ((q:Int)+1),.int .i64 y0,.int .i64 y1,.int .i64 y2,.int .i64 y3,.int .i64 y4,.int .i64 y5,.int .i64 y6] 3)))):=HRK.out
                go_upto_region 24 with fail
                have hal:=zC wr (.cells #[.int .i64 y1,.int .i64 y2,.int .i64 y3,.int .i64 y4,.int .i64 y5,.int .i64 y6] 40)
                have gC:=zG wr (.cells #[.int .i64 y1,.int .i64 y2,.int .i64 y3,.int .i64 y4,.int .i64 y5,.int .i64 y6] 40)
                have hsvy:=hsvz.keep hRw (hal.mono hsr)
                have owny:=zD ownz hal
                have t0c:=((bcell hal).1 _ _ hebl).trans x0
                have hebl2:=Nat.lt_of_lt_of_le hebl hal.size
                clear x0 x1 x2 x3 x4 x5 x6 lc0 lc1 lc2 lf0 lf1 lf2 llt
                generalize hCq:wr.heap.size=Cq at *
                generalize wr.alloc (.cells #[.int .i64 y1,.int .i64 y2,.int .i64 y3,.int .i64 y4,.int .i64 y5,.int .i64 y6] 40)=W1 at *
                obtain ⟨gV1,g01,g11,hs1,hw1⟩:=id hsvy
                obtain ⟨lc0,lc1,lc2,lf0,lf1,lf2,llt⟩:=box3 g11
                have kc0:=zE gC 0
                have kc1:=zE gC 1
                have kc2:=zE gC 2
                have kc3:=zE gC 3
                have kc4:=zE gC 4
                have kc5:=zE gC 5
                have klt:=zB gC
                simp only [List.getElem?_toArray,List.getElem?_cons_zero,List.getElem?_cons_succ] at kc0 kc1 kc2 kc3 kc4 kc5
                go_region_held3 (fun W=>W.cell? ⟨w.heap.size+1,2,none⟩=some (.slice (some ⟨eb,eoff,none⟩) l.length cap)∧W.cell? ⟨eb,eoff+q * 7,none⟩=some (.int .i64 y0)∧W.cell? ⟨Cq,0,none⟩=some (.int .i64 y1)∧W.cell? ⟨Cq,1,none⟩=some (.int .i64 y2)∧W.cell? ⟨Cq,2,none⟩=some (.int .i64 y3)∧W.cell? ⟨Cq,3,none⟩=some (.int .i64 y4)∧W.cell? ⟨Cq,4,none⟩=some (.int .i64 y5)∧W.cell? ⟨Cq,5,none⟩=some (.int .i64 y6)) (first | exact ⟨n2,nt,jc0,jc1,jc2,jc3,jc4,jc5⟩ | exact ⟨lc2,t0c,kc0,kc1,kc2,kc3,kc4,kc5⟩ | go_keep) ((go_at_call 132;refine (HRK.out W1.drew).mono ?_;rintro e w5 ⟨a5,c5,rfl,own5,hb5⟩;have hb5':Below W1.heap.size W1 w5:=(zK W1).drew.trans (zJ hb5);have own4b:=zD owny hb5';have hsz5:=hb5'.size;have hsv5:=hsvy.keep hRw (hb5'.mono hs1);obtain ⟨_,_,n2,_⟩:=box3 hsv5.2.2.1;have nt:=((bcell hb5').1 _ _ hebl2).trans t0c;have jc0:=((bcell hb5').1 _ _ klt).trans kc0;have jc1:=((bcell hb5').1 _ _ klt).trans kc1;have jc2:=((bcell hb5').1 _ _ klt).trans kc2;have jc3:=((bcell hb5').1 _ _ klt).trans kc3;have jc4:=((bcell hb5').1 _ _ klt).trans kc4;have jc5:=((bcell hb5').1 _ _ klt).trans kc5))
                go_wp2_with (at_builtin;refine zF rfl (.tmp 158) (.tmp 159) rfl elemB (w.heap.size+2) (.slice Dz Z.length cz) Z.length (Z.map zX) (by rfl) own4b a5 ZK.length c5 (ZK.map zX) (by rfl) (by rw [List.length_map,Nat.mul_one]) (RowAt.of_own own5) (zAS _) (by unfold maxLen;omega) (by omega) (Nat.le_trans hs1 hsz5) (zBL own5) ?_;intro D6 c6 w6 own6 hg6 hat6;have hb6:Below (w.heap.size+2) w5 w6:=Below.appended (Below.refl _ _) own4b hg6 (Nat.le_trans hs1 hsz5) (Nat.le_refl _))
                exact ⟨⟨q+1,Z ++ ZK,D6,c6,by omega,by omega,by simp,by rw [List.length_append],HZ2,by rw [List.length_append];omega,by rw [List.length_append,List.map_append];exact own6,hsv5.keep hRw hb6⟩,by simp [intOf];omega⟩
              · have hkk:q=l.length:=by omega
                have hk1:¬ (q:Int)<(l.length:Int):=by omega
                have hzy:Z=Y3:=by rw [HZ.out,HY3b.out,hkk,List.take_of_length_le (by rw [List.length_drop];omega)]
                have HZY:=Lib.hid hzy
                clear hzy
                go_wp2
                go_meet
                rw [HZY.out] at ownz hZl ⊢
                exact ⟨Dz,cz,rfl,ownz,by omega,hsvz⟩
          case rest =>
            obtain ⟨D10,c10,rfl,own10,hY3l,hsv10⟩:=hcut
            obtain ⟨w10,hw10⟩:∃ q,q=wc:=⟨_,rfl⟩
            subst hw10
            rw [HY3.out,← HY3b.out] at HE
            have HSAV:Hid (bs ++ saveB (t0,v0,es) t v l=Y3):=by rw [Hid,HY3.out,HY3b.out]
            clear own9 hsv9
            obtain ⟨gV,g0,g1,hs10,hwW⟩:=id hsv10
            obtain ⟨d0,d1,d2,d3,d4,e0,e1,e2,e3,e4,dlt⟩:=box5 gV
            obtain ⟨b0,b1,bf0,bf1,blt⟩:=box2 g0
            obtain ⟨l0,l1,l2,lf0,lf1,lf2,llt⟩:=box3 g1
            by_cases hbig:65536<Y3.length
            · rw [if_pos hbig] at HE
              have hbig2:(65536:Int)<(Y3.length:Int):=by omega
              go_wp2
              go_ret
              rw [HE.out,HVN2.out (by rw [HE.out];decide)]
              exact ⟨rfl,HRV.out.below hwW,Only.of_below hwW⟩
            · rw [if_neg hbig] at HE
              have hbig2:(Y3.length:Int)≤65536:=by omega
              have hne0:w.heap.size≠R:=by omega
              have hne1:w.heap.size+1≠R:=by omega
              obtain ⟨p0,p1,_,_,plt⟩:=box2 (zL (i:=0) g0 hne0 (.slice D10 Y3.length c10))
              obtain ⟨_,_,p2,_,_,_,plt1⟩:=box3 (zL (i:=0) g1 hne1 (.slice D10 Y3.length c10))
              go_wp2
              go_ret
              rw [HE.out,HVV2.out HE.out]
              have hO:Only R w ((((w10.setCell ⟨R,0,none⟩ (.slice D10 Y3.length c10)).setCell ⟨R,2,none⟩ (.int .i64 t)).setCell ⟨R,3,none⟩ (.int .i64 v)).setCell ⟨R,4,none⟩ (.slice a l.length cap)):=((((Only.of_below hwW).setCell 0 _).setCell 2 _).setCell 3 _).setCell 4 _
              have hRb:R<w.heap.size+2:=by omega
              have hown:=ownsRow_setCell_below (ownsRow_setCell_below (ownsRow_setCell_below (ownsRow_setCell_below own10 (a:=⟨R,0,none⟩) hRb (.slice D10 Y3.length c10)) (a:=⟨R,2,none⟩) hRb (.int .i64 t)) (a:=⟨R,3,none⟩) hRb (.int .i64 v)) (a:=⟨R,4,none⟩) hRb (.slice a l.length cap)
              refine ⟨rfl,⟨D10,c10,a,cap,?_,?_,?_,?_,?_,hl.out hO ho hnR,ho⟩,hO⟩
              · simp only [HSAV.out]
                exact zQ (i:=4) (zQ (i:=3) (zQ (i:=2) (zQ (i:=0) gV (.slice D10 Y3.length c10)) (.int .i64 t)) (.int .i64 v)) (.slice a l.length cap)
              · simp only [HSAV.out]
                exact RowAt.of_own hown
              · simp only [HSAV.out]
                exact zBL hown
              · simp only [HSAV.out]
                exact own_le' hown
              · simp only [HSAV.out]
                intro h0 b o hb
                have:=own_from hown h0 b o hb
                exact hP0 _ (by omega)
end Go.Proofs.YtnljdkglncmfaaaGreat
