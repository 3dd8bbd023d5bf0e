/-
  Part Bc of the proof.
-/
import Derived.Test.YtnljdkglncmfaaaGreatBb
import Derived.Test.YtnljdkglncmfaaaGreatBa
namespace Go.Proofs.YtnljdkglncmfaaaGreat
open Go.RowKit
set_option linter.unusedVariables false
def lastF (b t:Int) (es:List En):Int × Int:=((zAN b t es).1+(zAN b t es).2.2.length,endT (zAN b t es).2.2 (zAN b t es).2.1)
theorem termF_last (b t:Int) (es:List En):termF (zAN b t es).1 (zAN b t es).2.1 (zAN b t es).2.2 ((zAN b t es).1+(zAN b t es).2.2.length)=((lastF b t es).2,true):=by
  unfold termF
  rw [zBQ (fairL_may b t es),termL_at (zAN b t es).2.2.length (Nat.le_refl _) rfl,List.take_length]
  rfl
set_option maxHeartbeats 1600000 in
theorem last_any (b t:Int) (a:Option Addr) (cap:Nat) (es:List En) (w:World) (hl:LogIn w a cap es) :
    Calls Tryz.prog 60 #[logV b t a es.length cap] w fun e w'=>e=.returned (.tuple #[.int .i64 (lastF b t es).1,.int .i64 (lastF b t es).2])∧Below w.heap.size w w':=by
  have HM:Hid (∀ W,Below w.heap.size w W → Calls Tryz.prog 96 #[logV b t a es.length cap] W fun e w'=>e=.returned (logV (zAN b t es).1 (zAN b t es).2.1 (zCK b t es a cap).1 (zAN b t es).2.2.length (zCK b t es a cap).2)∧Below W.heap.size W w'):=fun W h=>fair_any b t a cap es W (hl.below h)
  have hmay:=fairL_may b t es
  have hlf:=hl.fair b t
  have HT:Hid (∀ W,LogIn W (zCK b t es a cap).1 (zCK b t es a cap).2 (zAN b t es).2.2 → Calls Tryz.prog 97 #[logV (zAN b t es).1 (zAN b t es).2.1 (zCK b t es a cap).1 (zAN b t es).2.2.length (zCK b t es a cap).2,.int .i64 ((zAN b t es).1+(zAN b t es).2.2.length)] W fun e w'=>e=.returned (.tuple #[.int .i64 (lastF b t es).2,.bool true])∧Below W.heap.size W w'):=fun W h=>by
    have:=term_any (zAN b t es).1 (zAN b t es).2.1 (zCK b t es a cap).1 (zCK b t es a cap).2 (zAN b t es).2.2 ((zAN b t es).1+(zAN b t es).2.2.length) W h
    rw [termF_last] at this
    exact this
  have HI:Hid ((lastF b t es).1=(zAN b t es).1+(zAN b t es).2.2.length):=rfl
  clear hl
  generalize lastF b t es=L at HT HI
  obtain ⟨L1,L2⟩:=L
  generalize zCK b t es a cap=A at HM hlf HT
  generalize zAN b t es=l at HM hmay hlf HT HI
  obtain ⟨B,T,l⟩:=l
  obtain ⟨a',cap'⟩:=A
  simp only at HM hmay hlf HT HI ⊢
  obtain rfl:=HI.out
  obtain ⟨h1,h2,_,_,_,h6,hx⟩:=zAB hmay
  have h6':(l.length:Int)≤64:=by omega
  clear hmay hx HI
  have hlW:Hid (∀ W,Below w.heap.size w W → LogIn W a' cap' l):=fun W h=>hlf.below h
  go_enter Tryz.func60,Tryz.ntmps60
  go_wp2_with (first
    | (go_at_call 96;refine (HM.out _ (zC _ _)).mono ?_;rintro e w1 ⟨rfl,hb1⟩;have hF:=zA hb1 (zG _ _);obtain ⟨hc0,hc1,hc2,hf0,hf1,hf2,hlt⟩:=box3 hF;have hb2:=zO (zJ hb1) (Nat.le_refl _) (.int .i64 B) (.int .i64 T) (.slice a' l.length cap'))
    | (go_at_call 97;refine (HT.out _ (hlW.out _ hb2)).mono ?_;rintro e w3 ⟨rfl,hb3⟩))
  go_ret2
  exact ⟨rfl,bt hb2 hb3⟩
set_option maxHeartbeats 1600000 in
theorem refRising_any (a : Option Addr) (cap : Nat) (es : List En) (f : Int) (w : World) (hr : RowAt w a (ensV es)) (hm : es.length ≤ maxLen) :
    Calls Tryz.prog 108 #[.slice a es.length cap,.int .i64 f] w fun e w'=>e=.returned (.bool (rising es f))∧w'=w:=by
  have HM:=Lib.hid hm
  clear hm
  go_enter Tryz.func108,Tryz.ntmps108
  go_wp2
  go_loopw [5,6] (fun v i wr=>∃ (k:Nat) (g:Int),k≤es.length∧i=.int .i64 k∧v=.int .i64 g∧Hid (endT (es.take k) f=g)∧Hid (rising (es.take k) f=true)∧wr=w) (fun _ i _=>es.length - (intOf i).toNat)
  case atStart=>exact ⟨0,f,by omega,rfl,rfl,rfl,rfl,rfl⟩
  case round =>
    obtain ⟨k,g,hk,rfl,rfl,HG,HR,rfl⟩:=hrel
    by_cases hlt:k<es.length
    · obtain ⟨b,off,rfl,hblt,hc⟩:=zAF (hr) hlt
      have HA:Hid (es[k]?=some (es[k]'hlt)):=List.getElem?_eq_getElem hlt
      have HF:Hid (¬ (1≤(es[k]).1∧g≤(es[k]).1∧(es[k]).1≤1073741824) → rising es f=false):=fun h=>rising_false hlt (by rw [HG.out];exact h)
      have HT:Hid (1≤(es[k]).1∧g≤(es[k]).1∧(es[k]).1≤1073741824 → rising (es.take (k+1)) f=true):=fun h=>rising_go hlt h.1 (by rw [HG.out];exact h.2.1) h.2.2 HR.out
      have HE:Hid (endT (es.take (k+1)) f=(es[k]).1):=endT_take hlt f
      generalize (es[k]'hlt)=x at hc HA HF HT HE
      obtain ⟨t,c1,c2,c3,c4,c5,c6⟩:=x
      simp only at hc HA HF HT HE
      obtain ⟨hc0,hc1,hc2,hc3,hc4,hc5,hc6⟩:=hc
      have hk0:(0:Int)≤(k:Int):=by omega
      have HW:Hid (wrap64 ((k:Int)+1)=((k+1:Nat):Int)):=wrap_next hlt HM.out
      have hk1:(k:Int)<(es.length:Int):=by omega
      clear hc1 hc2 hc3 hc4 hc5 hc6
      by_cases h1:t<1
      · have HO:=Lib.hid (HF.out (by omega))
        clear HF HT HE HA
        go_wp2
        go_ret
        exact ⟨by rw [HO.out];rfl,rfl⟩
      by_cases h2:1073741824<t
      · have HO:=Lib.hid (HF.out (by omega))
        clear HF HT HE HA
        go_wp2
        go_ret
        exact ⟨by rw [HO.out];rfl,rfl⟩
      by_cases h3:t<g
      · have HO:=Lib.hid (HF.out (by omega))
        clear HF HT HE HA
        go_wp2
        go_ret
        exact ⟨by rw [HO.out];rfl,rfl⟩
      have HT2:=Lib.hid (HT.out (by omega))
      clear HF HT HA
      go_wp2
      go_roundw
      case rel=>exact ⟨k+1,t,by omega,by rw [HW.out],rfl,HE,HT2,trivial⟩
      case measure=>exact measure_next HW.out hlt
    · have hek:k=es.length:=by omega
      have HO:Hid (rising es f=true):=by have:=HR.out;rwa [hek,List.take_length] at this
      clear hek
      go_wp2
      go_ret
      exact ⟨by rw [HO.out];rfl,rfl⟩
set_option maxHeartbeats 1600000 in
theorem refMay_any (b t:Int) (a:Option Addr) (cap:Nat) (es:List En) (w:World) (hl:LogIn w a cap es) :
    Calls Tryz.prog 74 #[logV b t a es.length cap] w fun e w'=>e=.returned (.bool (mayL b t es))∧Below w.heap.size w w':=by
  have HR:Hid (∀ o,Calls Tryz.prog 108 #[.slice a es.length cap,.int .i64 t] (w.alloc o) fun e w'=>e=.returned (.bool (rising es t))∧w'=w.alloc o):=fun o=>refRising_any a cap es t _ (hl.row.alloc o) hl.max
  have HM:Hid (mayL b t es=(rising es t && decide (0≤b) && decide (b≤1099511627776) && decide (0≤t) && decide (t≤1073741824) && (decide (0<b) || t == 0) && decide ((es.length:Int)≤64))):=by
    unfold mayL
    rw [Hid,Bool.and_comm,Bool.and_assoc,Bool.and_assoc,Bool.and_assoc,Bool.and_assoc,Bool.and_assoc]
    congr 1
    rw [Bool.eq_iff_iff]
    simp only [decide_eq_true_eq,Bool.and_eq_true,Bool.or_eq_true,beq_iff_eq]
    omega
  rw [HM.out]
  generalize rising es t=R at HR
  clear hl HM
  go_enter Tryz.func74,Tryz.ntmps74
  go_wp2_with (go_at_call 108;refine (HR.out _).mono ?_;rintro e w1 ⟨rfl,rfl⟩)
  all_goals (go_ret;refine ⟨zCQ ?_,zC _ _⟩)
  all_goals (simp_all;try omega)
set_option maxHeartbeats 1600000 in
theorem refFair_yes (b t:Int) (a:Option Addr) (cap:Nat) (es:List En) (w:World) (hl:LogIn w a cap es) (hm:mayL b t es=true) :
    Calls Tryz.prog 109 #[logV b t a es.length cap] w fun e w'=>e=.returned (logV b t a es.length cap)∧Below w.heap.size w w':=by
  have HM:Hid (∀ W,Below w.heap.size w W → Calls Tryz.prog 74 #[logV b t a es.length cap] W fun e w'=>e=.returned (.bool true)∧Below W.heap.size W w'):=fun W h=>by have:=refMay_any b t a cap es W (hl.below h);rwa [hm] at this
  clear hl hm
  go_enter Tryz.func109,Tryz.ntmps109
  go_wp2_with (go_at_call 74;refine (HM.out _ (zAE _ _ _)).mono ?_;rintro e w1 ⟨rfl,hb1⟩;have hF:=zA hb1 (zT _ _ _);have hG:=zA hb1 (zR _ _ _);obtain ⟨hc0,hc1,hc2,_,_,_,hlt⟩:=box3 hF;obtain ⟨gc0,gc1,gc2,gf0,gf1,gf2,hlt2⟩:=box3 hG)
  obtain ⟨k0,k1,k2,_⟩:=box3 (zZ hG (.int .i64 b) (.int .i64 t) (.slice a es.length cap))
  refine bodyPost_ret (v:=logV b t a es.length cap) (by simp [results,Tryz.results109,go_sem,k0,k1,k2]) rfl ?_
  exact ⟨rfl,zO (zAJ hb1) (by omega) _ _ _⟩
set_option maxHeartbeats 1600000 in
theorem refFair_no (b t:Int) (a:Option Addr) (cap:Nat) (es:List En) (w:World) (hl:LogIn w a cap es) (hm:mayL b t es=false) :
    Calls Tryz.prog 109 #[logV b t a es.length cap] w fun e w'=>e=.returned (logV 0 0 none 0 0)∧Below w.heap.size w w':=by
  have HM:Hid (∀ W,Below w.heap.size w W → Calls Tryz.prog 74 #[logV b t a es.length cap] W fun e w'=>e=.returned (.bool false)∧Below W.heap.size W w'):=fun W h=>by have:=refMay_any b t a cap es W (hl.below h);rwa [hm] at this
  clear hl hm
  go_enter Tryz.func109,Tryz.ntmps109
  go_wp2_with (go_at_call 74;refine (HM.out _ (zAE _ _ _)).mono ?_;rintro e w1 ⟨rfl,hb1⟩;have hF:=zA hb1 (zT _ _ _);have hG:=zA hb1 (zR _ _ _);obtain ⟨hc0,hc1,hc2,_,_,_,hlt⟩:=box3 hF;obtain ⟨gc0,gc1,gc2,gf0,gf1,gf2,hlt2⟩:=box3 hG)
  obtain ⟨k0,k1,k2,_⟩:=box3 (zZ hG (.int .i64 0) (.int .i64 0) (.slice none 0 0))
  refine bodyPost_ret (v:=logV 0 0 none 0 0) (by simp [results,Tryz.results109,go_sem,k0,k1,k2]) rfl ?_
  exact ⟨rfl,zO (zAJ hb1) (by omega) _ _ _⟩
theorem refFair_any (b t:Int) (a:Option Addr) (cap:Nat) (es:List En) (w:World) (hl:LogIn w a cap es) :
    Calls Tryz.prog 109 #[logV b t a es.length cap] w fun e w'=>e=.returned (logV (zAN b t es).1 (zAN b t es).2.1 (zCK b t es a cap).1 (zAN b t es).2.2.length (zCK b t es a cap).2)∧Below w.heap.size w w':=by
  cases hm:mayL b t es with
  | true =>
    rw [zBQ hm,show zCK b t es a cap=(a,cap) from if_pos hm]
    exact refFair_yes b t a cap es w hl hm
  | false =>
    rw [fairL_no hm,show zCK b t es a cap=(none,0) from if_neg (by rw [hm];decide)]
    exact refFair_no b t a cap es w hl hm
set_option maxHeartbeats 1600000 in
theorem refTerm_any (b t:Int) (a:Option Addr) (cap:Nat) (es:List En) (i:Int) (hi:(Lit.int .i64 i).wf=true) (w:World) (hl:LogIn w a cap es) :
    Calls Tryz.prog 134 #[logV b t a es.length cap,.int .i64 i] w fun e w'=>e=.returned (.tuple #[.int .i64 (termF b t es i).1,.bool (termF b t es i).2])∧Below w.heap.size w w':=by
  have HM:Hid (∀ W,Below w.heap.size w W → Calls Tryz.prog 109 #[logV b t a es.length cap] W fun e w'=>e=.returned (logV (zAN b t es).1 (zAN b t es).2.1 (zCK b t es a cap).1 (zAN b t es).2.2.length (zCK b t es a cap).2)∧Below W.heap.size W w'):=fun W h=>refFair_any b t a cap es W (hl.below h)
  have hmay:=fairL_may b t es
  have hlf:=hl.fair b t
  unfold termF
  clear hl
  generalize zCK b t es a cap=A at HM hlf
  generalize zAN b t es=l at HM hmay hlf
  obtain ⟨B,T,l⟩:=l
  obtain ⟨a',cap'⟩:=A
  simp only at HM hmay hlf
  obtain ⟨h1,h2,_,_,_,h6,_⟩:=zAB hmay
  simp only at h1 h2 h6 ⊢
  have h6':(l.length:Int)≤64:=by omega
  clear hmay
  have hi2:Hid (i≤9223372036854775807):=by simp [Lit.wf,IntKind.min,IntKind.max,IntKind.bits,IntKind.signed] at hi;exact hi.2
  clear hi
  by_cases e1:i=B
  · subst e1
    have HT:Hid (zCI i T l i=(T,true)):=by rw [Hid];unfold zCI;rw [if_pos rfl]
    rw [HT.out]
    dsimp only
    clear HT
    go_enter Tryz.func134,Tryz.ntmps134
    go_wp2_with (go_at_call 109;refine (HM.out _ (zC _ _)).mono ?_;rintro e w1 ⟨rfl,hb1⟩;have hw1:=(zJ hb1).size)
    go_ret2
    exact ⟨rfl,(zJ hb1).alloc hw1 _⟩
  have e1':(i == B)=false:=by simpa using e1
  by_cases e2:i<B
  · have HT:=Lib.hid (termL_out (t:=T) (es:=l) (b:=B) (i:=i) (.inl e2))
    rw [HT.out]
    dsimp only
    clear HT
    clear e1
    go_enter Tryz.func134,Tryz.ntmps134
    go_wp2_with (go_at_call 109;refine (HM.out _ (zC _ _)).mono ?_;rintro e w1 ⟨rfl,hb1⟩;have hw1:=(zJ hb1).size)
    go_ret2
    exact ⟨rfl,(zJ hb1).alloc hw1 _⟩
  have hw:wrap64 (i - B)=i - B:=by have:=hi2.out;unfold wrap64;omega
  by_cases e3:B+(l.length:Int)<i
  · have HT:=Lib.hid (termL_out (t:=T) (es:=l) (b:=B) (i:=i) (.inr e3))
    rw [HT.out]
    dsimp only
    clear HT
    clear e1
    go_enter Tryz.func134,Tryz.ntmps134
    go_wp2_with (go_at_call 109;refine (HM.out _ (zC _ _)).mono ?_;rintro e w1 ⟨rfl,hb1⟩;have hw1:=(zJ hb1).size)
    go_ret2
    exact ⟨rfl,(zJ hb1).alloc hw1 _⟩
  · have hk:(i - B).toNat - 1<l.length:=by omega
    have hke:(i - B - 1).toNat=(i - B).toNat - 1:=by omega
    have HT:Hid (zCI B T l i=((l[(i - B).toNat - 1]'hk).1,true)):=by
      unfold zCI
      rw [Hid,if_neg e1,if_neg (by omega),hke,List.getD_eq_getElem?_getD,List.getElem?_eq_getElem hk]
      rfl
    rw [HT.out]
    dsimp only
    clear HT
    obtain ⟨g,off,rfl,hg,hcx,hxx⟩:=zAF hlf.row hk
    clear hxx
    generalize (l[(i - B).toNat - 1]'hk).1=X at hcx
    have hx0:0≤i - B - 1:=by omega
    have hx1:i - B - 1<l.length:=by omega
    clear e1 hk hke
    go_enter Tryz.func134,Tryz.ntmps134
    go_wp2_with (go_at_call 109;refine (HM.out _ (zC _ _)).mono ?_;rintro e w1 ⟨rfl,hb1⟩;have hw1:=(zJ hb1).size;have hcx1:=((bcell (zJ hb1)).1 _ _ hg).trans hcx;have hg1:=Nat.lt_of_lt_of_le hg hw1)
    go_ret2
    exact ⟨rfl,(zJ hb1).alloc hw1 _⟩
theorem newer_any (i t k u:Int) (w:World) :
    Calls Tryz.prog 121 #[.int .i64 i,.int .i64 t,.int .i64 k,.int .i64 u] w fun e w'=>e=.returned (.bool (newerB i t k u))∧w'=w:=by
  unfold newerB
  by_cases h:t=u
  · subst h
    go_enter Tryz.func121,Tryz.ntmps121
    go_wp2
    go_ret
    refine ⟨?_,rfl⟩
    simp
  · have h1:(t != u)=true:=by simpa using h
    have h2:Hid (decide (t > u∨t=u∧i ≥ k)=decide (u<t)):=by rw [Hid];apply decide_eq_decide.2;omega
    clear h
    rw [h2.out]
    clear h2
    go_enter Tryz.func121,Tryz.ntmps121
    go_wp2
    go_ret
    exact ⟨rfl,rfl⟩
theorem refNewer_any (i t k u:Int) (w:World) :
    Calls Tryz.prog 114 #[.int .i64 i,.int .i64 t,.int .i64 k,.int .i64 u] w fun e w'=>e=.returned (.bool (newerB i t k u))∧w'=w:=by
  unfold newerB
  by_cases h:u<t
  · have h2:Hid (decide (t > u∨t=u∧i ≥ k)=true):=by rw [Hid];apply decide_eq_true;omega
    rw [h2.out]
    clear h2
    go_enter Tryz.func114,Tryz.ntmps114
    go_wp2
    go_ret
    exact ⟨rfl,rfl⟩
  by_cases h3:t=u
  · subst h3
    have h2:Hid (decide (t > t∨t=t∧i ≥ k)=decide (k≤i)):=by rw [Hid];apply decide_eq_decide.2;omega
    rw [h2.out]
    clear h2
    go_enter Tryz.func114,Tryz.ntmps114
    go_wp2
    go_ret
    exact ⟨rfl,rfl⟩
  · have h1:(t == u)=false:=by simpa using h3
    have h2:Hid (decide (t > u∨t=u∧i ≥ k)=false):=by rw [Hid];apply decide_eq_false;omega
    rw [h2.out]
    clear h2 h3
    go_enter Tryz.func114,Tryz.ntmps114
    go_wp2
    go_ret
    exact ⟨rfl,rfl⟩
end Go.Proofs.YtnljdkglncmfaaaGreat
