/-
  Part VoteC of the proof.
-/
import Derived.Test.YtnljdkglncmfaaaGreatBd
namespace Go.Proofs.YtnljdkglncmfaaaGreat
open Go.RowKit
set_option linter.unusedVariables false
set_option maxHeartbeats 3200000 in
theorem refGrant_any (t v b bt : Int) (a : Option Addr) (cap : Nat) (es : List En) (m : Mg) (am : Option Addr) (cm : Nat) (w : World) (hl : LogIn w a cap es) :
    Calls Tryz.prog 85 #[zV t v,logV b bt a es.length cap,msgV m am cm] w fun e w'=>e=.returned (.tuple #[zV (zBH t v b bt es m.2.1 m.2.2.2.1 m.2.2.2.2.1 m.2.2.2.2.2.1).1 (zBH t v b bt es m.2.1 m.2.2.2.1 m.2.2.2.2.1 m.2.2.2.2.2.1).2.1,.bool (zBH t v b bt es m.2.1 m.2.2.2.1 m.2.2.2.2.1 m.2.2.2.2.2.1).2.2])∧Below w.heap.size w w':=by
  obtain ⟨k,f,o,T,I,LT,C,Y,L⟩:=m
  unfold zBH
  simp only
  have HS:Hid (∀ W,Calls Tryz.prog 84 #[zV t v,.int .i64 T] W fun e w'=>e=.returned (zV (seeF t v T).1 (seeF t v T).2)∧Below W.heap.size W w'):=fun W=>refSee_any t v T W
  have HL:Hid (∀ W,Below w.heap.size w W → Calls Tryz.prog 75 #[logV b bt a es.length cap] W fun e w'=>e=.returned (.tuple #[.int .i64 (lastF b bt es).1,.int .i64 (lastF b bt es).2])∧Below W.heap.size W w'):=fun W h=>zBX b bt a cap es W (hl.below h)
  have HN:Hid (∀ W,Calls Tryz.prog 114 #[.int .i64 I,.int .i64 LT,.int .i64 (lastF b bt es).1,.int .i64 (lastF b bt es).2] W fun e w'=>e=.returned (.bool (newerB I LT (lastF b bt es).1 (lastF b bt es).2))∧w'=W):=fun W=>refNewer_any I LT _ _ W
  clear hl
  generalize newerB I LT (lastF b bt es).1 (lastF b bt es).2=N at HN
  generalize lastF b bt es=li at HL HN
  have HMB:Hid (zCY f=(decide (1≤f) && decide (f≤16))):=rfl
  generalize zCY f=M at HMB
  generalize seeF t v T=x at HS
  obtain ⟨x,y⟩:=x
  obtain ⟨li,lt⟩:=li
  simp only at HS HL HN ⊢
  generalize L.length=nl
  by_cases h1:T=x
  · subst h1
    by_cases hy:y=0
    · subst hy
      by_cases hm1:f<1
      · rw [if_neg (by rintro ⟨_,h,_⟩;rw [HMB.out] at h;simp at h;omega)]
        go_enter Tryz.func85,Tryz.ntmps85
        go_wp2_with (first
          | (go_at_call 84;refine (HS.out _).mono ?_;rintro e w1 ⟨rfl,hb1⟩;obtain ⟨⟨g0,g1,g2,g3⟩,hz,hw0⟩:=alloc4 w _ _ _ _;have hz1:=hb1.size;rw [hz] at hz1;replace hw0:=hw0.trans (hb1.mono (by rw [hz];omega));replace g1:=zA hb1 g1;replace g2:=zA hb1 g2;replace g3:=zA hb1 g3;clear hz hb1;obtain ⟨lc0,lc1,lc2,_,_,_,hlt1⟩:=box3 g1;obtain ⟨mc0,mc1,mc2,mc3,mc4,mc5,mc6,mc7,mc8⟩:=box9 g2;replace g2:=zH g2 (.cells #[.int .i64 T,.int .i64 0] 34);replace g3:=zH g3 (.cells #[.int .i64 T,.int .i64 0] 34);have g0:=zG w1 (.cells #[.int .i64 T,.int .i64 0] 34);replace hw0:=hw0.alloc hw0.size (.cells #[.int .i64 T,.int .i64 0] 34))
          | (go_at_call 75;refine (HL.out _ hw0).mono ?_;rintro e w3 ⟨rfl,hb3⟩;replace hw0:=hw0.trans (hb3.mono hw0.size);replace g0:=zA hb3 g0;replace g2:=zA hb3 g2;replace g3:=zA hb3 g3;obtain ⟨hc0,hc1,hf0,hf1,hlt0⟩:=box2 g0;obtain ⟨mc0,mc1,mc2,mc3,mc4,mc5,mc6,mc7,mc8⟩:=box9 g2;obtain ⟨rc0,rc1,rf0,rf1,hlt3⟩:=box2 g3)
          | (go_at_call 114;refine (HN.out _).mono ?_;rintro e w4 ⟨rfl,rfl⟩))
        obtain ⟨k0,k1,_⟩:=box2 (zAA g3 (.int .i64 T) (.int .i64 0))
        refine bodyPost_ret (v:=.tuple #[zV T 0,.bool false]) (by simp [results,Tryz.results85,go_sem,k0,k1]) rfl ?_
        exact ⟨rfl,zP hw0 (by omega) _ _⟩
      by_cases hm2:16<f
      · rw [if_neg (by rintro ⟨_,h,_⟩;rw [HMB.out] at h;simp at h;omega)]
        go_enter Tryz.func85,Tryz.ntmps85
        go_wp2_with (first
          | (go_at_call 84;refine (HS.out _).mono ?_;rintro e w1 ⟨rfl,hb1⟩;obtain ⟨⟨g0,g1,g2,g3⟩,hz,hw0⟩:=alloc4 w _ _ _ _;have hz1:=hb1.size;rw [hz] at hz1;replace hw0:=hw0.trans (hb1.mono (by rw [hz];omega));replace g1:=zA hb1 g1;replace g2:=zA hb1 g2;replace g3:=zA hb1 g3;clear hz hb1;obtain ⟨lc0,lc1,lc2,_,_,_,hlt1⟩:=box3 g1;obtain ⟨mc0,mc1,mc2,mc3,mc4,mc5,mc6,mc7,mc8⟩:=box9 g2;replace g2:=zH g2 (.cells #[.int .i64 T,.int .i64 0] 34);replace g3:=zH g3 (.cells #[.int .i64 T,.int .i64 0] 34);have g0:=zG w1 (.cells #[.int .i64 T,.int .i64 0] 34);replace hw0:=hw0.alloc hw0.size (.cells #[.int .i64 T,.int .i64 0] 34))
          | (go_at_call 75;refine (HL.out _ hw0).mono ?_;rintro e w3 ⟨rfl,hb3⟩;replace hw0:=hw0.trans (hb3.mono hw0.size);replace g0:=zA hb3 g0;replace g2:=zA hb3 g2;replace g3:=zA hb3 g3;obtain ⟨hc0,hc1,hf0,hf1,hlt0⟩:=box2 g0;obtain ⟨mc0,mc1,mc2,mc3,mc4,mc5,mc6,mc7,mc8⟩:=box9 g2;obtain ⟨rc0,rc1,rf0,rf1,hlt3⟩:=box2 g3)
          | (go_at_call 114;refine (HN.out _).mono ?_;rintro e w4 ⟨rfl,rfl⟩))
        obtain ⟨k0,k1,_⟩:=box2 (zAA g3 (.int .i64 T) (.int .i64 0))
        refine bodyPost_ret (v:=.tuple #[zV T 0,.bool false]) (by simp [results,Tryz.results85,go_sem,k0,k1]) rfl ?_
        exact ⟨rfl,zP hw0 (by omega) _ _⟩
      have HMT:Hid (M=true):=by rw [Hid,HMB.out];simp;omega
      cases N with
      | false =>
        rw [if_neg (by simp)]
        go_enter Tryz.func85,Tryz.ntmps85
        go_wp2_with (first
          | (go_at_call 84;refine (HS.out _).mono ?_;rintro e w1 ⟨rfl,hb1⟩;obtain ⟨⟨g0,g1,g2,g3⟩,hz,hw0⟩:=alloc4 w _ _ _ _;have hz1:=hb1.size;rw [hz] at hz1;replace hw0:=hw0.trans (hb1.mono (by rw [hz];omega));replace g1:=zA hb1 g1;replace g2:=zA hb1 g2;replace g3:=zA hb1 g3;clear hz hb1;obtain ⟨lc0,lc1,lc2,_,_,_,hlt1⟩:=box3 g1;obtain ⟨mc0,mc1,mc2,mc3,mc4,mc5,mc6,mc7,mc8⟩:=box9 g2;replace g2:=zH g2 (.cells #[.int .i64 T,.int .i64 0] 34);replace g3:=zH g3 (.cells #[.int .i64 T,.int .i64 0] 34);have g0:=zG w1 (.cells #[.int .i64 T,.int .i64 0] 34);replace hw0:=hw0.alloc hw0.size (.cells #[.int .i64 T,.int .i64 0] 34))
          | (go_at_call 75;refine (HL.out _ hw0).mono ?_;rintro e w3 ⟨rfl,hb3⟩;replace hw0:=hw0.trans (hb3.mono hw0.size);replace g0:=zA hb3 g0;replace g2:=zA hb3 g2;replace g3:=zA hb3 g3;obtain ⟨hc0,hc1,hf0,hf1,hlt0⟩:=box2 g0;obtain ⟨mc0,mc1,mc2,mc3,mc4,mc5,mc6,mc7,mc8⟩:=box9 g2;obtain ⟨rc0,rc1,rf0,rf1,hlt3⟩:=box2 g3)
          | (go_at_call 114;refine (HN.out _).mono ?_;rintro e w4 ⟨rfl,rfl⟩))
        obtain ⟨k0,k1,_⟩:=box2 (zAA g3 (.int .i64 T) (.int .i64 0))
        refine bodyPost_ret (v:=.tuple #[zV T 0,.bool false]) (by simp [results,Tryz.results85,go_sem,k0,k1]) rfl ?_
        exact ⟨rfl,zP hw0 (by omega) _ _⟩
      | true =>
        rw [if_pos (by simp [HMT.out])]
        go_enter Tryz.func85,Tryz.ntmps85
        go_wp2_with (first
          | (go_at_call 84;refine (HS.out _).mono ?_;rintro e w1 ⟨rfl,hb1⟩;obtain ⟨⟨g0,g1,g2,g3⟩,hz,hw0⟩:=alloc4 w _ _ _ _;have hz1:=hb1.size;rw [hz] at hz1;replace hw0:=hw0.trans (hb1.mono (by rw [hz];omega));replace g1:=zA hb1 g1;replace g2:=zA hb1 g2;replace g3:=zA hb1 g3;clear hz hb1;obtain ⟨lc0,lc1,lc2,_,_,_,hlt1⟩:=box3 g1;obtain ⟨mc0,mc1,mc2,mc3,mc4,mc5,mc6,mc7,mc8⟩:=box9 g2;replace g2:=zH g2 (.cells #[.int .i64 T,.int .i64 0] 34);replace g3:=zH g3 (.cells #[.int .i64 T,.int .i64 0] 34);have g0:=zG w1 (.cells #[.int .i64 T,.int .i64 0] 34);replace hw0:=hw0.alloc hw0.size (.cells #[.int .i64 T,.int .i64 0] 34))
          | (go_at_call 75;refine (HL.out _ hw0).mono ?_;rintro e w3 ⟨rfl,hb3⟩;replace hw0:=hw0.trans (hb3.mono hw0.size);replace g0:=zA hb3 g0;replace g2:=zA hb3 g2;replace g3:=zA hb3 g3;obtain ⟨hc0,hc1,hf0,hf1,hlt0⟩:=box2 g0;obtain ⟨mc0,mc1,mc2,mc3,mc4,mc5,mc6,mc7,mc8⟩:=box9 g2;obtain ⟨rc0,rc1,rf0,rf1,hlt3⟩:=box2 g3)
          | (go_at_call 114;refine (HN.out _).mono ?_;rintro e w4 ⟨rfl,rfl⟩))
        obtain ⟨k0,k1,_⟩:=box2 (zAA (zL (i:=1) g3 (G:=w1.heap.size) (by omega) (.int .i64 f)) (.int .i64 T) (.int .i64 f))
        refine bodyPost_ret (v:=.tuple #[zV T f,.bool true]) (by simp [results,Tryz.results85,go_sem,k0,k1]) rfl ?_
        exact ⟨rfl,zP (hw0.setCell (p:=⟨w1.heap.size,1,none⟩) (show w.heap.size≤w1.heap.size by omega) _) (by omega) _ _⟩
    have hy1:(y != 0)=true:=by simpa using hy
    by_cases hyf:y=f
    · subst hyf
      clear hy
      by_cases hm1:y<1
      · rw [if_neg (by rintro ⟨_,h,_⟩;rw [HMB.out] at h;simp at h;omega)]
        go_enter Tryz.func85,Tryz.ntmps85
        go_wp2_with (first
          | (go_at_call 84;refine (HS.out _).mono ?_;rintro e w1 ⟨rfl,hb1⟩;obtain ⟨⟨g0,g1,g2,g3⟩,hz,hw0⟩:=alloc4 w _ _ _ _;have hz1:=hb1.size;rw [hz] at hz1;replace hw0:=hw0.trans (hb1.mono (by rw [hz];omega));replace g1:=zA hb1 g1;replace g2:=zA hb1 g2;replace g3:=zA hb1 g3;clear hz hb1;obtain ⟨lc0,lc1,lc2,_,_,_,hlt1⟩:=box3 g1;obtain ⟨mc0,mc1,mc2,mc3,mc4,mc5,mc6,mc7,mc8⟩:=box9 g2;replace g2:=zH g2 (.cells #[.int .i64 T,.int .i64 y] 34);replace g3:=zH g3 (.cells #[.int .i64 T,.int .i64 y] 34);have g0:=zG w1 (.cells #[.int .i64 T,.int .i64 y] 34);replace hw0:=hw0.alloc hw0.size (.cells #[.int .i64 T,.int .i64 y] 34))
          | (go_at_call 75;refine (HL.out _ hw0).mono ?_;rintro e w3 ⟨rfl,hb3⟩;replace hw0:=hw0.trans (hb3.mono hw0.size);replace g0:=zA hb3 g0;replace g2:=zA hb3 g2;replace g3:=zA hb3 g3;obtain ⟨hc0,hc1,hf0,hf1,hlt0⟩:=box2 g0;obtain ⟨mc0,mc1,mc2,mc3,mc4,mc5,mc6,mc7,mc8⟩:=box9 g2;obtain ⟨rc0,rc1,rf0,rf1,hlt3⟩:=box2 g3)
          | (go_at_call 114;refine (HN.out _).mono ?_;rintro e w4 ⟨rfl,rfl⟩))
        obtain ⟨k0,k1,_⟩:=box2 (zAA g3 (.int .i64 T) (.int .i64 y))
        refine bodyPost_ret (v:=.tuple #[zV T y,.bool false]) (by simp [results,Tryz.results85,go_sem,k0,k1]) rfl ?_
        exact ⟨rfl,zP hw0 (by omega) _ _⟩
      by_cases hm2:16<y
      · rw [if_neg (by rintro ⟨_,h,_⟩;rw [HMB.out] at h;simp at h;omega)]
        go_enter Tryz.func85,Tryz.ntmps85
        go_wp2_with (first
          | (go_at_call 84;refine (HS.out _).mono ?_;rintro e w1 ⟨rfl,hb1⟩;obtain ⟨⟨g0,g1,g2,g3⟩,hz,hw0⟩:=alloc4 w _ _ _ _;have hz1:=hb1.size;rw [hz] at hz1;replace hw0:=hw0.trans (hb1.mono (by rw [hz];omega));replace g1:=zA hb1 g1;replace g2:=zA hb1 g2;replace g3:=zA hb1 g3;clear hz hb1;obtain ⟨lc0,lc1,lc2,_,_,_,hlt1⟩:=box3 g1;obtain ⟨mc0,mc1,mc2,mc3,mc4,mc5,mc6,mc7,mc8⟩:=box9 g2;replace g2:=zH g2 (.cells #[.int .i64 T,.int .i64 y] 34);replace g3:=zH g3 (.cells #[.int .i64 T,.int .i64 y] 34);have g0:=zG w1 (.cells #[.int .i64 T,.int .i64 y] 34);replace hw0:=hw0.alloc hw0.size (.cells #[.int .i64 T,.int .i64 y] 34))
          | (go_at_call 75;refine (HL.out _ hw0).mono ?_;rintro e w3 ⟨rfl,hb3⟩;replace hw0:=hw0.trans (hb3.mono hw0.size);replace g0:=zA hb3 g0;replace g2:=zA hb3 g2;replace g3:=zA hb3 g3;obtain ⟨hc0,hc1,hf0,hf1,hlt0⟩:=box2 g0;obtain ⟨mc0,mc1,mc2,mc3,mc4,mc5,mc6,mc7,mc8⟩:=box9 g2;obtain ⟨rc0,rc1,rf0,rf1,hlt3⟩:=box2 g3)
          | (go_at_call 114;refine (HN.out _).mono ?_;rintro e w4 ⟨rfl,rfl⟩))
        obtain ⟨k0,k1,_⟩:=box2 (zAA g3 (.int .i64 T) (.int .i64 y))
        refine bodyPost_ret (v:=.tuple #[zV T y,.bool false]) (by simp [results,Tryz.results85,go_sem,k0,k1]) rfl ?_
        exact ⟨rfl,zP hw0 (by omega) _ _⟩
      have HMT:Hid (M=true):=by rw [Hid,HMB.out];simp;omega
      cases N with
      | false =>
        rw [if_neg (by simp)]
        go_enter Tryz.func85,Tryz.ntmps85
        go_wp2_with (first
          | (go_at_call 84;refine (HS.out _).mono ?_;rintro e w1 ⟨rfl,hb1⟩;obtain ⟨⟨g0,g1,g2,g3⟩,hz,hw0⟩:=alloc4 w _ _ _ _;have hz1:=hb1.size;rw [hz] at hz1;replace hw0:=hw0.trans (hb1.mono (by rw [hz];omega));replace g1:=zA hb1 g1;replace g2:=zA hb1 g2;replace g3:=zA hb1 g3;clear hz hb1;obtain ⟨lc0,lc1,lc2,_,_,_,hlt1⟩:=box3 g1;obtain ⟨mc0,mc1,mc2,mc3,mc4,mc5,mc6,mc7,mc8⟩:=box9 g2;replace g2:=zH g2 (.cells #[.int .i64 T,.int .i64 y] 34);replace g3:=zH g3 (.cells #[.int .i64 T,.int .i64 y] 34);have g0:=zG w1 (.cells #[.int .i64 T,.int .i64 y] 34);replace hw0:=hw0.alloc hw0.size (.cells #[.int .i64 T,.int .i64 y] 34))
          | (go_at_call 75;refine (HL.out _ hw0).mono ?_;rintro e w3 ⟨rfl,hb3⟩;replace hw0:=hw0.trans (hb3.mono hw0.size);replace g0:=zA hb3 g0;replace g2:=zA hb3 g2;replace g3:=zA hb3 g3;obtain ⟨hc0,hc1,hf0,hf1,hlt0⟩:=box2 g0;obtain ⟨mc0,mc1,mc2,mc3,mc4,mc5,mc6,mc7,mc8⟩:=box9 g2;obtain ⟨rc0,rc1,rf0,rf1,hlt3⟩:=box2 g3)
          | (go_at_call 114;refine (HN.out _).mono ?_;rintro e w4 ⟨rfl,rfl⟩))
        obtain ⟨k0,k1,_⟩:=box2 (zAA g3 (.int .i64 T) (.int .i64 y))
        refine bodyPost_ret (v:=.tuple #[zV T y,.bool false]) (by simp [results,Tryz.results85,go_sem,k0,k1]) rfl ?_
        exact ⟨rfl,zP hw0 (by omega) _ _⟩
      | true =>
        rw [if_pos (by simp [HMT.out])]
        go_enter Tryz.func85,Tryz.ntmps85
        go_wp2_with (first
          | (go_at_call 84;refine (HS.out _).mono ?_;rintro e w1 ⟨rfl,hb1⟩;obtain ⟨⟨g0,g1,g2,g3⟩,hz,hw0⟩:=alloc4 w _ _ _ _;have hz1:=hb1.size;rw [hz] at hz1;replace hw0:=hw0.trans (hb1.mono (by rw [hz];omega));replace g1:=zA hb1 g1;replace g2:=zA hb1 g2;replace g3:=zA hb1 g3;clear hz hb1;obtain ⟨lc0,lc1,lc2,_,_,_,hlt1⟩:=box3 g1;obtain ⟨mc0,mc1,mc2,mc3,mc4,mc5,mc6,mc7,mc8⟩:=box9 g2;replace g2:=zH g2 (.cells #[.int .i64 T,.int .i64 y] 34);replace g3:=zH g3 (.cells #[.int .i64 T,.int .i64 y] 34);have g0:=zG w1 (.cells #[.int .i64 T,.int .i64 y] 34);replace hw0:=hw0.alloc hw0.size (.cells #[.int .i64 T,.int .i64 y] 34))
          | (go_at_call 75;refine (HL.out _ hw0).mono ?_;rintro e w3 ⟨rfl,hb3⟩;replace hw0:=hw0.trans (hb3.mono hw0.size);replace g0:=zA hb3 g0;replace g2:=zA hb3 g2;replace g3:=zA hb3 g3;obtain ⟨hc0,hc1,hf0,hf1,hlt0⟩:=box2 g0;obtain ⟨mc0,mc1,mc2,mc3,mc4,mc5,mc6,mc7,mc8⟩:=box9 g2;obtain ⟨rc0,rc1,rf0,rf1,hlt3⟩:=box2 g3)
          | (go_at_call 114;refine (HN.out _).mono ?_;rintro e w4 ⟨rfl,rfl⟩))
        obtain ⟨k0,k1,_⟩:=box2 (zAA (zL (i:=1) g3 (G:=w1.heap.size) (by omega) (.int .i64 y)) (.int .i64 T) (.int .i64 y))
        refine bodyPost_ret (v:=.tuple #[zV T y,.bool true]) (by simp [results,Tryz.results85,go_sem,k0,k1]) rfl ?_
        exact ⟨rfl,zP (hw0.setCell (p:=⟨w1.heap.size,1,none⟩) (show w.heap.size≤w1.heap.size by omega) _) (by omega) _ _⟩
    · have hy2:(y != f)=true:=by simpa using hyf
      rw [if_neg (by rintro ⟨_,_,h,_⟩;omega)]
      clear hy hyf
      go_enter Tryz.func85,Tryz.ntmps85
      go_wp2_with (first
        | (go_at_call 84;refine (HS.out _).mono ?_;rintro e w1 ⟨rfl,hb1⟩;obtain ⟨⟨g0,g1,g2,g3⟩,hz,hw0⟩:=alloc4 w _ _ _ _;have hz1:=hb1.size;rw [hz] at hz1;replace hw0:=hw0.trans (hb1.mono (by rw [hz];omega));replace g1:=zA hb1 g1;replace g2:=zA hb1 g2;replace g3:=zA hb1 g3;clear hz hb1;obtain ⟨lc0,lc1,lc2,_,_,_,hlt1⟩:=box3 g1;obtain ⟨mc0,mc1,mc2,mc3,mc4,mc5,mc6,mc7,mc8⟩:=box9 g2;replace g2:=zH g2 (.cells #[.int .i64 T,.int .i64 y] 34);replace g3:=zH g3 (.cells #[.int .i64 T,.int .i64 y] 34);have g0:=zG w1 (.cells #[.int .i64 T,.int .i64 y] 34);replace hw0:=hw0.alloc hw0.size (.cells #[.int .i64 T,.int .i64 y] 34))
        | (go_at_call 75;refine (HL.out _ hw0).mono ?_;rintro e w3 ⟨rfl,hb3⟩;replace hw0:=hw0.trans (hb3.mono hw0.size);replace g0:=zA hb3 g0;replace g2:=zA hb3 g2;replace g3:=zA hb3 g3;obtain ⟨hc0,hc1,hf0,hf1,hlt0⟩:=box2 g0;obtain ⟨mc0,mc1,mc2,mc3,mc4,mc5,mc6,mc7,mc8⟩:=box9 g2;obtain ⟨rc0,rc1,rf0,rf1,hlt3⟩:=box2 g3)
        | (go_at_call 114;refine (HN.out _).mono ?_;rintro e w4 ⟨rfl,rfl⟩))
      obtain ⟨k0,k1,_⟩:=box2 (zAA g3 (.int .i64 T) (.int .i64 y))
      refine bodyPost_ret (v:=.tuple #[zV T y,.bool false]) (by simp [results,Tryz.results85,go_sem,k0,k1]) rfl ?_
      exact ⟨rfl,zP hw0 (by omega) _ _⟩
  · have h2:(T != x)=true:=by simpa using h1
    rw [if_neg (by rintro ⟨h,_⟩;exact h1 h)]
    clear h1
    go_enter Tryz.func85,Tryz.ntmps85
    go_wp2_with (first
      | (go_at_call 84;refine (HS.out _).mono ?_;rintro e w1 ⟨rfl,hb1⟩;obtain ⟨⟨g0,g1,g2,g3⟩,hz,hw0⟩:=alloc4 w _ _ _ _;have hz1:=hb1.size;rw [hz] at hz1;replace hw0:=hw0.trans (hb1.mono (by rw [hz];omega));replace g1:=zA hb1 g1;replace g2:=zA hb1 g2;replace g3:=zA hb1 g3;clear hz hb1;obtain ⟨lc0,lc1,lc2,_,_,_,hlt1⟩:=box3 g1;obtain ⟨mc0,mc1,mc2,mc3,mc4,mc5,mc6,mc7,mc8⟩:=box9 g2;replace g2:=zH g2 (.cells #[.int .i64 x,.int .i64 y] 34);replace g3:=zH g3 (.cells #[.int .i64 x,.int .i64 y] 34);have g0:=zG w1 (.cells #[.int .i64 x,.int .i64 y] 34);replace hw0:=hw0.alloc hw0.size (.cells #[.int .i64 x,.int .i64 y] 34))
      | (go_at_call 75;refine (HL.out _ hw0).mono ?_;rintro e w3 ⟨rfl,hb3⟩;replace hw0:=hw0.trans (hb3.mono hw0.size);replace g0:=zA hb3 g0;replace g2:=zA hb3 g2;replace g3:=zA hb3 g3;obtain ⟨hc0,hc1,hf0,hf1,hlt0⟩:=box2 g0;obtain ⟨mc0,mc1,mc2,mc3,mc4,mc5,mc6,mc7,mc8⟩:=box9 g2;obtain ⟨rc0,rc1,rf0,rf1,hlt3⟩:=box2 g3)
      | (go_at_call 114;refine (HN.out _).mono ?_;rintro e w4 ⟨rfl,rfl⟩))
    obtain ⟨k0,k1,_⟩:=box2 (zAA g3 (.int .i64 x) (.int .i64 y))
    refine bodyPost_ret (v:=.tuple #[zV x y,.bool false]) (by simp [results,Tryz.results85,go_sem,k0,k1]) rfl ?_
    exact ⟨rfl,zP hw0 (by omega) _ _⟩
end Go.Proofs.YtnljdkglncmfaaaGreat
