/-
  Part Eb of the proof.
-/
import Derived.Test.YtnljdkglncmfaaaGreatEa
import Derived.Test.YtnljdkglncmfaaaGreatBc
import Derived.Test.YtnljdkglncmfaaaGreatBd
namespace Go.Proofs.YtnljdkglncmfaaaGreat
open Go.RowKit
set_option linter.unusedVariables false
def RetLog (r:Int × Int × List En × Int) (w:World) (en:Ending) (w':World):Prop :=
  ∃ a cap,en=.returned (.tuple #[logV r.1 r.2.1 a r.2.2.1.length cap,.int .i64 r.2.2.2])∧LogIn w' a cap r.2.2.1∧(r.2.2.1.length≠0 → ∀ b o,a=some ⟨b,o,none⟩ → w.heap.size≤b)∧Below w.heap.size w w'
theorem RetLog.none (err:Int) {w w':World} {en:Ending} (h:en=.returned (.tuple #[logV 0 0 none 0 0,.int .i64 err])) (hb:Below w.heap.size w w'):RetLog (0,0,[],err) w en w':=⟨Option.none,0,h,LogIn.zero w',fun h=>(h rfl).elim,hb⟩
theorem RetLog.ok {b t:Int} {L:List En} {q c3 base:Nat} {a3:Option Addr} {w W:World} (hq:L.length=q) (hown:W.ownsRow base 42 7 (.slice a3 q c3) q (ensV L)) (hbase:w.heap.size≤base) (hb:Below w.heap.size w W):RetLog (b,t,L,0) w (.returned (.tuple #[logV b t a3 q c3,.int .i64 0])) W:=by
  subst hq
  exact ⟨a3,c3,rfl,LogIn.of_own hown,fun h0 b o ha=>Nat.le_trans hbase (own_from hown h0 b o ha),hb⟩
theorem enV_one7 (x0 x1 x2 x3 x4 x5 x6:Int):∀ u ∈ ([.int .i64 x0,.int .i64 x1,.int .i64 x2,.int .i64 x3,.int .i64 x4,.int .i64 x5,.int .i64 x6]:List Value),u.oneCell'=true:=by
  intro u hu
  simp only [List.mem_cons,List.not_mem_nil,or_false] at hu
  rcases hu with rfl | rfl | rfl | rfl | rfl | rfl | rfl <;> rfl
theorem growN_below {w w1:World} {n:Nat} (hg:(w.drewN n).grownBy w1 (Value.slice none 0 0).ownBlock):Below w.heap.size w w1:=(Below.many (zK w) n).grown hg (Nat.le_refl _) (fun k hk=>by simp [Value.ownBlock] at hk)
theorem mergeL_stepN {es more:List En} {p k:Nat} (hk:k<more.length) (hp:p≤es.length) (h:¬ (p<es.length∧(es.getD p default).1=(more[k]).1)):zAO es p (more.drop k)=zAO (es.take p ++ [more[k]]) (p+1) (more.drop (k+1)):=by
  rw [List.drop_eq_getElem_cons hk,mergeL_step hp h]
theorem mergeL_sameN {es more:List En} {p k:Nat} (hk:k<more.length) (h:p<es.length∧(es.getD p default).1=(more[k]).1):zAO es p (more.drop k)=zAO es (p+1) (more.drop (k+1)):=by
  rw [List.drop_eq_getElem_cons hk,mergeL_same h]
set_option maxRecDepth 100000 in
set_option maxHeartbeats 6400000 in
theorem refAdd_any (b t : Int) (a : Option Addr) (cap : Nat) (es : List En) (i T : Int) (hwi : (Lit.int .i64 i).wf = true) (am : Option Addr) (cm : Nat) (more : List En) (w : World) (hl : LogIn w a cap es) (hm : LogIn w am cm more) (hs : more.length ≤ 1000000) :
    Calls Tryz.prog 115 #[logV b t a es.length cap,.int .i64 i,.int .i64 T,.slice am more.length cm] w (RetLog (addF b t es i T more) w):=by
  have HMay:Hid (∀ W,Below w.heap.size w W → Calls Tryz.prog 74 #[logV b t a es.length cap] W fun e w'=>e=.returned (.bool (mayL b t es))∧Below W.heap.size W w'):=fun W h=>refMay_any b t a cap es W (hl.below h)
  have HRis:Hid (∀ W,Below w.heap.size w W → Calls Tryz.prog 108 #[.slice am more.length cm,.int .i64 T] W fun e w'=>e=.returned (.bool (rising more T))∧w'=W):=fun W h=>refRising_any am cm more T W (hm.row.below h) hm.max
  cases hmay:mayL b t es with
  | false =>
    rw [show addF b t es i T more=(0,0,[],1) by unfold addF;rw [if_neg (by simp [hmay])]]
    rw [hmay] at HMay
    generalize rising more T=R at HRis
    clear hl hm
    go_enter Tryz.func115,Tryz.ntmps115
    go_wp2_with (first
      | (go_at_call 74;refine (HMay.out _ (zAE _ _ _)).mono ?_;rintro e w1 ⟨rfl,hb1⟩;have hw0:=zAJ hb1;have g0:=zA hb1 (zT _ _ _);have g1:=zA hb1 (zR _ _ _);obtain ⟨hc0,hc1,hc2,hf0,hf1,hf2,hlt0⟩:=box3 g0;obtain ⟨rc0,rc1,rc2,rf0,rf1,rf2,hlt1⟩:=box3 g1)
      | (go_at_call 108;refine (HRis.out _ hw0).mono ?_;rintro e w2 ⟨rfl,rfl⟩))
    obtain ⟨q0,q1,q2,_⟩:=box3 (zZ g1 (.int .i64 0) (.int .i64 0) (.slice none 0 0))
    refine bodyPost_ret (v:=.tuple #[logV 0 0 none 0 0,.int .i64 1]) (by simp [results,Tryz.results115,go_sem,q0,q1,q2]) rfl ?_
    exact RetLog.none 1 rfl (zO hw0 (by omega) _ _ _)
  | true =>
    rw [hmay] at HMay
    cases hris:rising more T with
    | false =>
      rw [show addF b t es i T more=(0,0,[],1) by unfold addF;rw [if_neg (by simp [hris])]]
      rw [hris] at HRis
      clear hl hm
      go_enter Tryz.func115,Tryz.ntmps115
      go_wp2_with (first
        | (go_at_call 74;refine (HMay.out _ (zAE _ _ _)).mono ?_;rintro e w1 ⟨rfl,hb1⟩;have hw0:=zAJ hb1;have g0:=zA hb1 (zT _ _ _);have g1:=zA hb1 (zR _ _ _);obtain ⟨hc0,hc1,hc2,hf0,hf1,hf2,hlt0⟩:=box3 g0;obtain ⟨rc0,rc1,rc2,rf0,rf1,rf2,hlt1⟩:=box3 g1)
        | (go_at_call 108;refine (HRis.out _ hw0).mono ?_;rintro e w2 ⟨rfl,rfl⟩))
      obtain ⟨q0,q1,q2,_⟩:=box3 (zZ g1 (.int .i64 0) (.int .i64 0) (.slice none 0 0))
      refine bodyPost_ret (v:=.tuple #[logV 0 0 none 0 0,.int .i64 1]) (by simp [results,Tryz.results115,go_sem,q0,q1,q2]) rfl ?_
      exact RetLog.none 1 rfl (zO hw0 (by omega) _ _ _)
    | true =>
      rw [hris] at HRis
      by_cases h1:i<b
      · rw [show addF b t es i T more=(0,0,[],9) by unfold addF;rw [if_pos ⟨hmay,hris⟩,if_pos h1]]
        clear hl hm
        go_enter Tryz.func115,Tryz.ntmps115
        go_wp2_with (first
          | (go_at_call 74;refine (HMay.out _ (zAE _ _ _)).mono ?_;rintro e w1 ⟨rfl,hb1⟩;have hw0:=zAJ hb1;have g0:=zA hb1 (zT _ _ _);have g1:=zA hb1 (zR _ _ _);obtain ⟨hc0,hc1,hc2,hf0,hf1,hf2,hlt0⟩:=box3 g0;obtain ⟨rc0,rc1,rc2,rf0,rf1,rf2,hlt1⟩:=box3 g1)
          | (go_at_call 108;refine (HRis.out _ hw0).mono ?_;rintro e w2 ⟨rfl,rfl⟩))
        obtain ⟨q0,q1,q2,_⟩:=box3 (zZ g1 (.int .i64 0) (.int .i64 0) (.slice none 0 0))
        refine bodyPost_ret (v:=.tuple #[logV 0 0 none 0 0,.int .i64 9]) (by simp [results,Tryz.results115,go_sem,q0,q1,q2]) rfl ?_
        exact RetLog.none 9 rfl (zO hw0 (by omega) _ _ _)
      have HLas:Hid (∀ W,Below w.heap.size w W → Calls Tryz.prog 75 #[logV b t a es.length cap] W fun e w'=>e=.returned (.tuple #[.int .i64 (b+es.length),.int .i64 (endT es t)])∧Below W.heap.size W w'):=fun W h=>by
        have:=zBX b t a cap es W (hl.below h)
        unfold lastF at this
        rwa [zBQ hmay] at this
      generalize endT es t=et at HLas
      by_cases h2:b+(es.length:Int)<i
      · rw [show addF b t es i T more=(0,0,[],10) by unfold addF;rw [if_pos ⟨hmay,hris⟩,if_neg h1,if_pos h2]]
        clear hl hm
        go_enter Tryz.func115,Tryz.ntmps115
        go_wp2_with (first
          | (go_at_call 74;refine (HMay.out _ (zAE _ _ _)).mono ?_;rintro e w1 ⟨rfl,hb1⟩;have hw0:=zAJ hb1;have g0:=zA hb1 (zT _ _ _);have g1:=zA hb1 (zR _ _ _);obtain ⟨hc0,hc1,hc2,hf0,hf1,hf2,hlt0⟩:=box3 g0;obtain ⟨rc0,rc1,rc2,rf0,rf1,rf2,hlt1⟩:=box3 g1)
          | (go_at_call 108;refine (HRis.out _ hw0).mono ?_;rintro e w2 ⟨rfl,rfl⟩)
          | (go_at_call 75;refine (HLas.out _ hw0).mono ?_;rintro e w3 ⟨rfl,hb3⟩;replace hw0:=hw0.trans (hb3.mono hw0.size);replace g0:=zA hb3 g0;replace g1:=zA hb3 g1;obtain ⟨hc0,hc1,hc2,hf0,hf1,hf2,hlt0⟩:=box3 g0;obtain ⟨rc0,rc1,rc2,rf0,rf1,rf2,hlt1⟩:=box3 g1))
        obtain ⟨q0,q1,q2,_⟩:=box3 (zZ g1 (.int .i64 0) (.int .i64 0) (.slice none 0 0))
        refine bodyPost_ret (v:=.tuple #[logV 0 0 none 0 0,.int .i64 10]) (by simp [results,Tryz.results115,go_sem,q0,q1,q2]) rfl ?_
        exact RetLog.none 10 rfl (zO hw0 (by omega) _ _ _)
      have HTer:Hid (∀ W,Below w.heap.size w W → Calls Tryz.prog 134 #[logV b t a es.length cap,.int .i64 i] W fun e w'=>e=.returned (.tuple #[.int .i64 (zCI b t es i).1,.bool (zCI b t es i).2])∧Below W.heap.size W w'):=fun W h=>by
        have:=refTerm_any b t a cap es i hwi W (hl.below h)
        unfold termF at this
        rwa [zBQ hmay] at this
      by_cases h3:(zCI b t es i).1=T
      rotate_left 1
      · rw [show addF b t es i T more=(0,0,[],8) by unfold addF;rw [if_pos ⟨hmay,hris⟩,if_neg h1,if_neg h2,if_neg h3]]
        generalize zCI b t es i=x at HTer h3
        obtain ⟨x,y⟩:=x
        simp only at HTer h3
        have h4:(x != T)=true:=by simpa using h3
        clear hl hm h3
        go_enter Tryz.func115,Tryz.ntmps115
        go_wp2_with (first
          | (go_at_call 74;refine (HMay.out _ (zAE _ _ _)).mono ?_;rintro e w1 ⟨rfl,hb1⟩;have hw0:=zAJ hb1;have g0:=zA hb1 (zT _ _ _);have g1:=zA hb1 (zR _ _ _);obtain ⟨hc0,hc1,hc2,hf0,hf1,hf2,hlt0⟩:=box3 g0;obtain ⟨rc0,rc1,rc2,rf0,rf1,rf2,hlt1⟩:=box3 g1)
          | (go_at_call 108;refine (HRis.out _ hw0).mono ?_;rintro e w2 ⟨rfl,rfl⟩)
          | (go_at_call 75;refine (HLas.out _ hw0).mono ?_;rintro e w3 ⟨rfl,hb3⟩;replace hw0:=hw0.trans (hb3.mono hw0.size);replace g0:=zA hb3 g0;replace g1:=zA hb3 g1;obtain ⟨hc0,hc1,hc2,hf0,hf1,hf2,hlt0⟩:=box3 g0;obtain ⟨rc0,rc1,rc2,rf0,rf1,rf2,hlt1⟩:=box3 g1)
          | (go_at_call 134;refine (HTer.out _ hw0).mono ?_;rintro e w4 ⟨rfl,hb4⟩;replace hw0:=hw0.trans (hb4.mono hw0.size);replace g0:=zA hb4 g0;replace g1:=zA hb4 g1;obtain ⟨hc0,hc1,hc2,hf0,hf1,hf2,hlt0⟩:=box3 g0;obtain ⟨rc0,rc1,rc2,rf0,rf1,rf2,hlt1⟩:=box3 g1))
        obtain ⟨q0,q1,q2,_⟩:=box3 (zZ g1 (.int .i64 0) (.int .i64 0) (.slice none 0 0))
        refine bodyPost_ret (v:=.tuple #[logV 0 0 none 0 0,.int .i64 8]) (by simp [results,Tryz.results115,go_sem,q0,q1,q2]) rfl ?_
        exact RetLog.none 8 rfl (zO hw0 (by omega) _ _ _)
      · have HADD:Hid (addF b t es i T more=if 64<(zAO es (i - b).toNat more).length then (0,0,[],7) else (b,t,zAO es (i - b).toNat more,0)):=by
          unfold addF
          rw [Hid,if_pos ⟨hmay,hris⟩,if_neg h1,if_neg h2,if_pos h3]
        have h64:=(zAB hmay).2.2.2.2.2.1
        have hb40:=(zAB hmay).2.1
        have hb0:=(zAB hmay).1
        generalize zCI b t es i=x at HTer h3
        obtain ⟨x,y⟩:=x
        simp only at HTer h3
        subst h3
        have HMRow:=Lib.hid hm
        have HLRow:=Lib.hid hl
        have HEL:Hid ((ensV es).length=es.length * 7):=zAQ es
        clear hm hl hwi
        obtain ⟨k0,hib⟩:∃ k0:Nat,i - b=(k0:Int):=⟨(i - b).toNat,by omega⟩
        have hk0:k0≤es.length:=by omega
        rw [show (i - b).toNat=k0 by omega] at HADD
        generalize hM:zAO es k0 more=M at HADD
        have HM0:=Lib.hid hM
        clear hM
        go_enter Tryz.func115,Tryz.ntmps115
        go_wp2_with (first
          | (go_at_call 74;refine (HMay.out _ (zAE _ _ _)).mono ?_;rintro e w1 ⟨rfl,hb1⟩;have hw0:=zAJ hb1;have g0:=zA hb1 (zT _ _ _);have g1:=zA hb1 (zR _ _ _);obtain ⟨hc0,hc1,hc2,hf0,hf1,hf2,hlt0⟩:=box3 g0;obtain ⟨rc0,rc1,rc2,rf0,rf1,rf2,hlt1⟩:=box3 g1)
          | (go_at_call 108;refine (HRis.out _ hw0).mono ?_;rintro e w2 ⟨rfl,rfl⟩)
          | (go_at_call 75;refine (HLas.out _ hw0).mono ?_;rintro e w3 ⟨rfl,hb3⟩;replace hw0:=hw0.trans (hb3.mono hw0.size);replace g0:=zA hb3 g0;replace g1:=zA hb3 g1;obtain ⟨hc0,hc1,hc2,hf0,hf1,hf2,hlt0⟩:=box3 g0;obtain ⟨rc0,rc1,rc2,rf0,rf1,rf2,hlt1⟩:=box3 g1)
          | (go_at_call 134;refine (HTer.out _ hw0).mono ?_;rintro e w4 ⟨rfl,hb4⟩;replace hw0:=hw0.trans (hb4.mono hw0.size);replace g0:=zA hb4 g0;replace g1:=zA hb4 g1;obtain ⟨hc0,hc1,hc2,hf0,hf1,hf2,hlt0⟩:=box3 g0;obtain ⟨rc0,rc1,rc2,rf0,rf1,rf2,hlt1⟩:=box3 g1)
          | (at_builtin;refine zF rfl (.const (.slice none 0 0)) (.tmp 56) rfl zCX (w.heap.size+2) (.slice none 0 0) 0 [] (by rfl) (World.ownsRow_nil _ _ _ _) a es.length cap (ensV es) (by rfl) HEL.out (HLRow.out.row.below hw0) (zCB _) (by unfold maxLen;omega) (by omega) (by omega) HLRow.out.none_ ?_;intro a5 c5 w5 hown5 hg5 hat5;simp only [Nat.zero_add,List.nil_append] at hown5;have hw5:=Below.appended hw0 (World.ownsRow_nil w4 (w.heap.size+2) 42 7) hg5 hw0.size (by omega);have G0:=zY hg5 g0 (by simp [Value.ownBlock]);have G1:=zY hg5 g1 (by simp [Value.ownBlock])))
        go_loopw [16,17] (fun o c wr=>∃ (k:Nat) (L:List En) (ao:Option Addr) (co:Nat),k≤more.length∧c=.int .i64 k∧o=.slice ao L.length co∧k0+k≤L.length∧L.length≤es.length+k∧Hid (zAO L (k0+k) (more.drop k)=M)∧wr.ownsRow (w.heap.size+2) 42 7 (.slice ao L.length co) L.length (ensV L)∧wr.heap[w.heap.size]?=some (.cells #[.int .i64 b,.int .i64 t,.slice a es.length cap] 55)∧wr.heap[w.heap.size+1]?=some (.cells #[.int .i64 0,.int .i64 0,.slice none 0 0] 55)∧Below w.heap.size w wr) (fun _ c _=>more.length - (intOf c).toNat)
        case atStart=>exact ⟨0,es,a5,c5,by omega,rfl,by simp,by omega,by omega,HM0.out,hown5,G0,G1,hw5⟩
        case round =>
          obtain ⟨k,L,ao,co,hk,rfl,rfl,hkL,hLe,HML,hown,g0,g1,hw0⟩:=hrel
          obtain ⟨hc0,hc1,hc2,hf0,hf1,hf2,hlt0⟩:=box3 g0
          obtain ⟨rc0,rc1,rc2,rf0,rf1,rf2,hlt1⟩:=box3 g1
          have hbig:w.heap.size+2≤wr.heap.size:=by omega
          by_cases hlt:k<more.length
          · obtain ⟨mb,moff,rfl,hmlt,m0,m1,m2,m3,m4,m5,m6⟩:=zAF (HMRow.out.row.below hw0) hlt
            have hkA:(0:Int)≤(k:Int):=by omega
            have hkB:(k:Int)<(more.length:Int):=by omega
            have hpA:(0:Int)≤(k0:Int)+(k:Int):=by omega
            have hk00:(0:Int)≤(k0:Int):=by omega
            have hk64:(k0:Int)≤64:=by omega
            have hkM:(k:Int)≤1000000:=by omega
            by_cases hsame:k0+k<L.length∧(L.getD (k0+k) default).1=(more[k]).1
            · have HM2:Hid (zAO L (k0+(k+1)) (more.drop (k+1))=M):=by
                have:=HML.out
                rwa [mergeL_sameN hlt hsame,Nat.add_assoc] at this
              obtain ⟨g,off,rfl,hglt,e0,ex⟩:=zAF (RowAt.of_own hown) hsame.1
              clear ex m1 m2 m3 m4 m5 m6
              have hee:=hsame.2
              rw [getD_at hsame.1] at hee
              rw [hee] at e0
              have hpl:=hsame.1
              generalize (more[k]'hlt).1=X at m0 e0
              have hpi:(k0:Int)+(k:Int)<(L.length:Int):=by omega
              clear hsame hee
              go_wp2
              go_quiet (fail)
              go_wp2
              go_roundw
              case rel=>exact ⟨k+1,L,some ⟨g,off,none⟩,co,by omega,by go_num,rfl,by omega,by omega,HM2,zAG hown nq,zI g0 nq,zI g1 nq,Below.many hw0 nq⟩
              case measure=>simp [intOf];omega
            · have HM2:Hid (zAO (L.take (k0+k) ++ [more[k]]) (k0+(k+1)) (more.drop (k+1))=M):=by
                have:=HML.out
                rwa [mergeL_stepN hlt hkL hsame,Nat.add_assoc] at this
              have HLn:Hid ((L.take (k0+k) ++ [more[k]]).length=k0+k+1):=by rw [Hid,List.length_append,List.length_take];simp;omega
              have HEn:Hid (∀ m:En,more[k]'hlt=m → (ensV L).take ((k0+k) * 7) ++ enV m=ensV (L.take (k0+k) ++ [more[k]])):=fun m h=>by rw [zCR,zBP,← h];simp [ensV]
              have HEl:Hid (((ensV L).take ((k0+k) * 7)).length=(k0+k) * 7):=by rw [Hid,List.length_take,zAQ];exact Nat.min_eq_left (Nat.mul_le_mul_right _ hkL)
              have HEo:Hid (∀ u ∈ (ensV L).take ((k0+k) * 7),u.oneCell'=true):=fun u hu=>zCB L u (List.mem_of_mem_take hu)
              have hns:=hsame
              clear hsame
              have HX:Hid (more[k]'hlt=more[k]'hlt):=rfl
              have hs1:∀ W,(Instr.slice 37 (.slice ao L.length co) none (some (.int .i64 ((k0:Int)+(k:Int)))) none).run Tryz.prog W=.ok (.slice ao (k0+k) co) W:=fun W=>by
                have:=zCN (P:=Tryz.prog) zCX ao L.length co (k0+k) (Nat.le_trans hkL (own_le' hown)) W
                rwa [Int.natCast_add] at this
              have HAO:Hid (ao=none → k0+k=0):=fun h=>by have:=own_nil' hown h;omega
              by_cases hpl:k0+k<L.length
              · obtain ⟨g,off,rfl,hglt,e0,ex⟩:=zAF (RowAt.of_own hown) hpl
                clear ex
                have hne:((L[k0+k]'hpl).1 == (more[k]'hlt).1)=false:=by
                  rw [getD_at hpl] at hns
                  simp
                  exact fun h=>hns ⟨hpl,h⟩
                generalize (L[k0+k]'hpl).1=Y at e0 hne
                generalize hX:(more[k]'hlt)=X at m0 m1 m2 m3 m4 m5 m6 hne
                have HXE:=Lib.hid (HEn.out X hX)
                obtain ⟨X0,X1,X2,X3,X4,X5,X6⟩:=X
                simp only at m0 m1 m2 m3 m4 m5 m6 hne
                have hpi:(k0:Int)+(k:Int)<(L.length:Int):=by omega
                clear hns hX HEn
                go_wp2
                go_quiet (fail)
                go_wp2_with (first
                  | (at_builtin;refine zF rfl (.const (.slice none 0 0)) (.tmp 89) rfl zCX (w.heap.size+2) (.slice none 0 0) 0 [] (by rfl) (World.ownsRow_nil _ _ _ _) (some ⟨g,off,none⟩) (k0+k) co ((ensV L).take ((k0+k) * 7)) (by rfl) HEl.out ((RowAt.of_own (zBB (zAG hown nq) hkL)).below (zK _)) HEo.out (by unfold maxLen;omega) (by omega) hbig (fun h=>HAO.out h) ?_;intro a6 c6 w6 hown6 hg6 hat6;simp only [Nat.zero_add,List.nil_append] at hown6;have hw6:=Below.appended (Below.many hw0 nq) (World.ownsRow_nil (wr.drewN nq) (w.heap.size+2) 42 7) hg6 hw0.size (by omega);have G0:=zY hg6 (zI g0 nq) (by simp [Value.ownBlock]);have G1:=zY hg6 (zI g1 nq) (by simp [Value.ownBlock]);have hb6:=growN_below hg6;replace m0:=(hb6.cell (p:=⟨mb,moff+k * 7,none⟩) hmlt).trans m0;replace m1:=(hb6.cell (p:=⟨mb,moff+k * 7+1,none⟩) hmlt).trans m1;replace m2:=(hb6.cell (p:=⟨mb,moff+k * 7+2,none⟩) hmlt).trans m2;replace m3:=(hb6.cell (p:=⟨mb,moff+k * 7+3,none⟩) hmlt).trans m3;replace m4:=(hb6.cell (p:=⟨mb,moff+k * 7+4,none⟩) hmlt).trans m4;replace m5:=(hb6.cell (p:=⟨mb,moff+k * 7+5,none⟩) hmlt).trans m5;replace m6:=(hb6.cell (p:=⟨mb,moff+k * 7+6,none⟩) hmlt).trans m6)
                  | (at_builtin;refine zF rfl (.tmp 91) (.tmp 96) rfl zCX (w.heap.size+2) (.slice a6 (k0+k) c6) (k0+k) ((ensV L).take ((k0+k) * 7)) (by rfl) (zD hown6 (zC _ _)) (some ⟨w6.heap.size,0,none⟩) 1 1 [.int .i64 X0,.int .i64 X1,.int .i64 X2,.int .i64 X3,.int .i64 X4,.int .i64 X5,.int .i64 X6] (by rfl) rfl (RowAt.new w6 #[.int .i64 X0,.int .i64 X1,.int .i64 X2,.int .i64 X3,.int .i64 X4,.int .i64 X5,.int .i64 X6] 42) (enV_one7 X0 X1 X2 X3 X4 X5 X6) (by unfold maxLen;omega) (by omega) (by have:=hw6.size;have:=zB G1;simp;omega) (fun h=>by cases h) ?_;intro a7 c7 w7 hown7 hg7 hat7))
                have ho6:=zD hown6 (zC w6 (.cells #[.int .i64 X0,.int .i64 X1,.int .i64 X2,.int .i64 X3,.int .i64 X4,.int .i64 X5,.int .i64 X6] 42))
                have hne0:(Value.slice a6 (k0+k) c6).ownBlock≠some w.heap.size:=fun e=>by have:=(hown6.lt _ e).1;omega
                have hne1:(Value.slice a6 (k0+k) c6).ownBlock≠some (w.heap.size+1):=fun e=>by have:=(hown6.lt _ e).1;omega
                have G0':=zY hg7 (zH G0 _) hne0
                have G1':=zY hg7 (zH G1 _) hne1
                have hw7:=Below.appended (hw6.alloc hw6.size _) ho6 hg7 ((hw6.alloc hw6.size _).size) (by omega)
                have hown8:w7.ownsRow (w.heap.size+2) 42 7 (.slice a7 (k0+k+1) c7) (k0+k+1) (ensV (L.take (k0+k) ++ [more[k]])):=by rw [← HXE.out];exact hown7
                go_wp2
                go_roundw
                case rel=>exact ⟨k+1,L.take (k0+k) ++ [more[k]],a7,c7,by omega,by go_num,by rw [HLn.out],by rw [HLn.out];omega,by rw [HLn.out];omega,HM2,by rw [HLn.out];exact hown8,G0',G1',hw7⟩
                case measure=>simp [intOf];omega
              · have HPE:Hid (k0+k=L.length):=by rw [Hid];omega
                generalize hX:(more[k]'hlt)=X at m0 m1 m2 m3 m4 m5 m6
                have HXE:=Lib.hid (HEn.out X hX)
                obtain ⟨X0,X1,X2,X3,X4,X5,X6⟩:=X
                simp only at m0 m1 m2 m3 m4 m5 m6
                have hpi:(L.length:Int)≤(k0:Int)+(k:Int):=by omega
                have hpd:decide ((k0:Int)+(k:Int)<(L.length:Int))=false:=decide_eq_false (by omega)
                clear hns hX HEn
                go_wp2
                go_quiet (fail)
                go_wp2_with (first
                  | (at_builtin;refine zF rfl (.const (.slice none 0 0)) (.tmp 89) rfl zCX (w.heap.size+2) (.slice none 0 0) 0 [] (by rfl) (World.ownsRow_nil _ _ _ _) ao (k0+k) co ((ensV L).take ((k0+k) * 7)) (by rfl) HEl.out ((RowAt.of_own (zBB (zAG hown nq) hkL)).below (zK _)) HEo.out (by unfold maxLen;omega) (by omega) hbig (fun h=>HAO.out h) ?_;intro a6 c6 w6 hown6 hg6 hat6;simp only [Nat.zero_add,List.nil_append] at hown6;have hw6:=Below.appended (Below.many hw0 nq) (World.ownsRow_nil (wr.drewN nq) (w.heap.size+2) 42 7) hg6 hw0.size (by omega);have G0:=zY hg6 (zI g0 nq) (by simp [Value.ownBlock]);have G1:=zY hg6 (zI g1 nq) (by simp [Value.ownBlock]);have hb6:=growN_below hg6;replace m0:=(hb6.cell (p:=⟨mb,moff+k * 7,none⟩) hmlt).trans m0;replace m1:=(hb6.cell (p:=⟨mb,moff+k * 7+1,none⟩) hmlt).trans m1;replace m2:=(hb6.cell (p:=⟨mb,moff+k * 7+2,none⟩) hmlt).trans m2;replace m3:=(hb6.cell (p:=⟨mb,moff+k * 7+3,none⟩) hmlt).trans m3;replace m4:=(hb6.cell (p:=⟨mb,moff+k * 7+4,none⟩) hmlt).trans m4;replace m5:=(hb6.cell (p:=⟨mb,moff+k * 7+5,none⟩) hmlt).trans m5;replace m6:=(hb6.cell (p:=⟨mb,moff+k * 7+6,none⟩) hmlt).trans m6)
                  | (at_builtin;refine zF rfl (.tmp 91) (.tmp 96) rfl zCX (w.heap.size+2) (.slice a6 (k0+k) c6) (k0+k) ((ensV L).take ((k0+k) * 7)) (by rfl) (zD hown6 (zC _ _)) (some ⟨w6.heap.size,0,none⟩) 1 1 [.int .i64 X0,.int .i64 X1,.int .i64 X2,.int .i64 X3,.int .i64 X4,.int .i64 X5,.int .i64 X6] (by rfl) rfl (RowAt.new w6 #[.int .i64 X0,.int .i64 X1,.int .i64 X2,.int .i64 X3,.int .i64 X4,.int .i64 X5,.int .i64 X6] 42) (enV_one7 X0 X1 X2 X3 X4 X5 X6) (by unfold maxLen;omega) (by omega) (by have:=hw6.size;have:=zB G1;simp;omega) (fun h=>by cases h) ?_;intro a7 c7 w7 hown7 hg7 hat7))
                have ho6:=zD hown6 (zC w6 (.cells #[.int .i64 X0,.int .i64 X1,.int .i64 X2,.int .i64 X3,.int .i64 X4,.int .i64 X5,.int .i64 X6] 42))
                have hne0:(Value.slice a6 (k0+k) c6).ownBlock≠some w.heap.size:=fun e=>by have:=(hown6.lt _ e).1;omega
                have hne1:(Value.slice a6 (k0+k) c6).ownBlock≠some (w.heap.size+1):=fun e=>by have:=(hown6.lt _ e).1;omega
                have G0':=zY hg7 (zH G0 _) hne0
                have G1':=zY hg7 (zH G1 _) hne1
                have hw7:=Below.appended (hw6.alloc hw6.size _) ho6 hg7 ((hw6.alloc hw6.size _).size) (by omega)
                have hown8:w7.ownsRow (w.heap.size+2) 42 7 (.slice a7 (k0+k+1) c7) (k0+k+1) (ensV (L.take (k0+k) ++ [more[k]])):=by rw [← HXE.out];exact hown7
                go_wp2
                go_roundw
                case rel=>exact ⟨k+1,L.take (k0+k) ++ [more[k]],a7,c7,by omega,by go_num,by rw [HLn.out],by rw [HLn.out];omega,by rw [HLn.out];omega,HM2,by rw [HLn.out];exact hown8,G0',G1',hw7⟩
                case measure=>simp [intOf];omega
          · have hek:k=more.length:=by omega
            have HLM:Hid (L=M):=by
              have:=HML.out
              rwa [hek,List.drop_length] at this
            have HLL:Hid (L.length=M.length):=by rw [Hid,HLM.out]
            by_cases hbig64:(64:Int)<(L.length:Int)
            · rw [if_pos (by rw [← HLL.out];omega)] at HADD
              have hbN:64<L.length:=by omega
              clear hek
              go_wp2
              obtain ⟨q0,q1,q2,_⟩:=box3 (zZ g1 (.int .i64 0) (.int .i64 0) (.slice none 0 0))
              refine bodyPost_ret (v:=.tuple #[logV 0 0 none 0 0,.int .i64 7]) (by simp [results,Tryz.results115,go_sem,q0,q1,q2]) rfl ?_
              rw [HADD.out]
              exact RetLog.none 7 rfl (zO hw0 (by omega) _ _ _)
            · rw [if_neg (by rw [← HLL.out];omega),← HLM.out] at HADD
              have hbN:(L.length:Int)≤64:=by omega
              have hbN2:L.length≤64:=by omega
              clear hek hbig64
              go_wp2
              obtain ⟨q0,q1,q2,_⟩:=box3 (zZ g1 (.int .i64 b) (.int .i64 t) (.slice ao L.length co))
              refine bodyPost_ret (v:=.tuple #[logV b t ao L.length co,.int .i64 0]) (by simp [results,Tryz.results115,go_sem,q0,q1,q2]) rfl ?_
              rw [HADD.out]
              exact RetLog.ok rfl (zCH (F:=w.heap.size+1) hown (by omega) _ _ _) (by omega) (zO hw0 (by omega) _ _ _)
theorem from_done {B:Int} {l:List En} {i most:Int} {n:Nat} (h:i≤B∨B+(l.length:Int)<i+n∨most≤n):(fromL B l i most).length≤n:=by
  by_cases h0:i≤B∨B+(l.length:Int)<i∨most≤0
  · rw [fromL_none h0];simp
  · rw [fromL_some h0,List.length_take,List.length_drop]
    omega
theorem from_more {B:Int} {l:List En} {i most:Int} {n:Nat} (h1:B<i) (h2:i+n≤B+(l.length:Int)) (h3:(n:Int)<most):∃ hk:(i+(n:Int) - B).toNat - 1<l.length,ensV ((fromL B l i most).take (n+1))=ensV ((fromL B l i most).take n) ++ enV (l[(i+(n:Int) - B).toNat - 1]):=by
  have hk:(i+(n:Int) - B).toNat - 1<l.length:=by omega
  refine ⟨hk,?_⟩
  rw [fromL_some (by omega),List.take_add_one,List.getElem?_take,if_pos (by omega),List.getElem?_drop,show (i - B - 1).toNat+n=(i+(n:Int) - B).toNat - 1 by omega,List.getElem?_eq_getElem hk,zBP]
  simp [ensV]
set_option maxRecDepth 100000 in
set_option maxHeartbeats 3200000 in
theorem refFrom_any (b t : Int) (a : Option Addr) (cap : Nat) (es : List En) (i most : Int) (w : World) (hi : i ≤ 9223372036854775806) (hl : LogIn w a cap es) :
    Calls Tryz.prog 135 #[logV b t a es.length cap,.int .i64 i,.int .i64 most] w (zAZ 42 7 (fromF b t es i most).length (ensV (fromF b t es i most)) w):=by
  have HM:Hid (∀ W,Below w.heap.size w W → Calls Tryz.prog 109 #[logV b t a es.length cap] W fun e w'=>e=.returned (logV (zAN b t es).1 (zAN b t es).2.1 (zCK b t es a cap).1 (zAN b t es).2.2.length (zCK b t es a cap).2)∧Below W.heap.size W w'):=fun W h=>refFair_any b t a cap es W (hl.below h)
  have hmay:=fairL_may b t es
  have hlf:=hl.fair b t
  unfold fromF
  clear hl
  generalize zCK b t es a cap=A at HM hlf
  generalize zAN b t es=l at HM hmay hlf
  obtain ⟨B,T,l⟩:=l
  obtain ⟨a',cap'⟩:=A
  simp only at HM hmay hlf ⊢
  obtain ⟨h1,h2,_,_,_,h6,hx⟩:=zAB hmay
  have h6':(l.length:Int)≤64:=by omega
  clear hmay hx
  have HD:Hid (∀ n:Nat,(i≤B∨B+(l.length:Int)<i+n∨most≤n) → (fromL B l i most).length≤n):=fun n h=>from_done h
  have HMo:Hid (∀ n:Nat,B<i → i+n≤B+(l.length:Int) → (n:Int)<most → ∃ hk:(i+(n:Int) - B).toNat - 1<l.length,ensV ((fromL B l i most).take (n+1))=ensV ((fromL B l i most).take n) ++ enV (l[(i+(n:Int) - B).toNat - 1])):=fun n h1 h2 h3=>from_more h1 h2 h3
  generalize fromL B l i most=P at *
  have HI:=Lib.hid hi
  clear hi
  go_enter Tryz.func135,Tryz.ntmps135
  go_wp2_with (go_at_call 109;refine (HM.out _ (zC _ _)).mono ?_;rintro e w1 ⟨rfl,hb1⟩;have hw1:=(zJ hb1))
  go_loopw [8,9] (fun o c wr=>∃ (n:Nat) (ao:Option Addr) (co:Nat),n≤P.length∧c=.int .i64 (i+(n:Int))∧o=.slice ao n co∧n≤64∧(n=0∨i+(n:Int)≤B+(l.length:Int)+1)∧wr.ownsRow (w1.heap.size+1) 42 7 (.slice ao n co) n (ensV (P.take n))∧wr.heap[w1.heap.size]?=some (.cells #[.int .i64 B,.int .i64 T,.slice a' l.length cap'] 55)∧Below w.heap.size w wr) (fun _ c _=>P.length - (intOf c - i).toNat)
  case atStart=>exact ⟨0,none,0,by omega,by simp,rfl,by omega,.inl rfl,World.ownsRow_nil _ _ _ _,zG _ _,hw1.alloc hw1.size _⟩
  case round =>
    obtain ⟨n,ao,co,hn,rfl,rfl,hn64,hbn,hown,g0,hw0⟩:=hrel
    obtain ⟨hc0,hc1,hc2,_,_,_,hlt0⟩:=box3 g0
    have hsz0:=hw0.size
    by_cases c1:i≤B
    · have hnP:n=P.length:=Nat.le_antisymm hn (HD.out n (.inl c1))
      subst hnP
      rw [List.take_length] at hown
      go_wp2
      go_ret
      exact ⟨ao,co,rfl,zW hown (by have:=hw1.size;omega),hw0⟩
    have hwk:wrap64 (i+(n:Int) - B)=i+(n:Int) - B:=by have:=HI.out;unfold wrap64;omega
    by_cases c2:B+(l.length:Int)<i+(n:Int)
    · have hd2:decide (i+(n:Int) - B≤(l.length:Int))=false:=decide_eq_false (by omega)
      have hnP:n=P.length:=Nat.le_antisymm hn (HD.out n (.inr (.inl c2)))
      have HNP:=Lib.hid hnP
      have c2':(l.length:Int)<i+(n:Int) - B:=by omega
      clear hnP c2
      go_wp2
      go_ret
      rw [HNP.out,List.take_length] at hown
      exact ⟨ao,co,by rw [HNP.out];rfl,zW hown (by have:=hw1.size;omega),hw0⟩
    by_cases c3:most≤(n:Int)
    · have hnP:n=P.length:=Nat.le_antisymm hn (HD.out n (.inr (.inr c3)))
      have HNP:=Lib.hid hnP
      have c2':i+(n:Int) - B≤(l.length:Int):=by omega
      clear hnP c2
      go_wp2
      go_ret
      rw [HNP.out,List.take_length] at hown
      exact ⟨ao,co,by rw [HNP.out];rfl,zW hown (by have:=hw1.size;omega),hw0⟩
    · obtain ⟨hkl,hT⟩:=HMo.out n (by omega) (by omega) (by omega)
      have hnP:n<P.length:=by
        rcases Nat.lt_or_ge n P.length with h | h
        · exact h
        · exfalso
          have:=congrArg List.length hT
          rw [List.take_of_length_le (by omega),List.take_of_length_le (by omega),List.length_append,enV_length] at this
          omega
      obtain ⟨g,off,ha,hglt,m0,m1,m2,m3,m4,m5,m6⟩:=zAF (hlf.row.below hw0) hkl
      have HEl:Hid ((ensV (P.take n)).length=n * 7):=by rw [Hid,zAQ,List.length_take,Nat.min_eq_left hn]
      have HTT:=Lib.hid hT
      generalize (l[(i+(n:Int) - B).toNat - 1]'hkl)=X at m0 m1 m2 m3 m4 m5 m6 HTT hT
      clear hT
      obtain ⟨X0,X1,X2,X3,X4,X5,X6⟩:=X
      simp only at m0 m1 m2 m3 m4 m5 m6
      subst ha
      have hx0:0≤i+(n:Int) - B - 1:=by omega
      have hx1:i+(n:Int) - B - 1<l.length:=by omega
      have hx2:i+(n:Int) - B≤l.length:=by omega
      have c3':(n:Int)<most:=by omega
      have c1':B<i:=by omega
      have hP64:P.length≤64:=by have:=HD.out l.length (.inr (.inl (by omega)));omega
      clear c1 c2 c3 hkl
      go_wp2_with (at_builtin;refine zF rfl (.tmp 35) (.tmp 45) rfl zCX (w1.heap.size+1) (.slice ao n co) n (ensV (P.take n)) (by rfl) (zD hown (zC _ _)) (some ⟨wr.heap.size,0,none⟩) 1 1 [.int .i64 X0,.int .i64 X1,.int .i64 X2,.int .i64 X3,.int .i64 X4,.int .i64 X5,.int .i64 X6] (by rfl) rfl (RowAt.new wr #[.int .i64 X0,.int .i64 X1,.int .i64 X2,.int .i64 X3,.int .i64 X4,.int .i64 X5,.int .i64 X6] 42) (enV_one7 X0 X1 X2 X3 X4 X5 X6) (by unfold maxLen;omega) (by omega) (by simp;omega) (fun h=>by cases h) ?_;intro a7 c7 w7 hown7 hg7 hat7)
      have ho:=zD hown (zC wr (.cells #[.int .i64 X0,.int .i64 X1,.int .i64 X2,.int .i64 X3,.int .i64 X4,.int .i64 X5,.int .i64 X6] 42))
      have hne:(Value.slice ao n co).ownBlock≠some w1.heap.size:=fun e=>by have:=(hown.lt _ e).1;omega
      have G0:=zY hg7 (zH g0 _) hne
      have hw1s:=hw1.size
      have hw7:=Below.appended (hw0.alloc hw0.size _) ho hg7 ((hw0.alloc hw0.size _).size) (by omega)
      have hown8:w7.ownsRow (w1.heap.size+1) 42 7 (.slice a7 (n+1) c7) (n+1) (ensV (P.take (n+1))):=by rw [HTT.out];exact hown7
      go_wp2
      go_roundw
      case rel=>exact ⟨n+1,a7,c7,by omega,by go_num,rfl,by omega,.inr (by omega),hown8,G0,hw7⟩
      case measure=>simp [intOf];omega
end Go.Proofs.YtnljdkglncmfaaaGreat
