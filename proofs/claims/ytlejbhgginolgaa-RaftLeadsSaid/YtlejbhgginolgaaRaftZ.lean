/-
  The law of who alone is the group.
-/
import Derived.Test.YtlejbhgginolgaaOpenCmds
import Derived.Test.YtlejbhgginolgaaRaftT
import Derived.Test.YtlejbhgginolgaaRaftV
import Derived.Test.YtlejbhgginolgaaRaftJ
namespace Go.Proofs.Ytlejbhgginolgaa
open Go.RowKit
set_option linter.unusedVariables false
/-- Who alone is the group, and did not time out, has not been told anything. -/
theorem solo_late {t v : Int} {es : List En} (ht : 1073741824 ≤ t) : (newMb 1 1 t v es).timeout = (newMb 1 1 t v es, []) := by
  unfold Mb.timeout
  rw [if_pos (.inr ht)]
theorem settledQ {w : World} {b : Nat} {a : MA} {m : Mb} (h : MAt w b a m) : Calls Try.prog 15 #[.pointer (some ⟨b, 0, none⟩)] w fun e w' => e = .returned (.int .i64 m.settled) ∧ w' = w := by
  obtain ⟨c0, c1, c2, c3, c4, c5, c6, c7, c8, c9, hlt⟩ := box10 h.blk
  go_enter Try.func15, Try.ntmps15
  go_wp2
  go_ret
  exact ⟨rfl, rfl⟩
theorem solo_prop {m : Mb} (h : Solo m) (c : Cm) (hl : m.log.length < 64) : m.propose c = (m.took c, (m.log.length : Int) + 1, [], 0) := by
  obtain ⟨_, _, _, h4, h5, _⟩ := solo_took h hl c
  unfold Mb.propose
  rw [if_neg (by simp [h.role]), if_neg (by omega), h4, h5]
theorem solo_full {m : Mb} (h : Solo m) (c : Cm) (hl : 64 ≤ m.log.length) : m.propose c = (m, 0, [], 7) := by
  unfold Mb.propose
  rw [if_neg (by simp [h.role]), if_pos hl]
set_option maxRecDepth 100000 in
set_option maxHeartbeats 6400000 in
theorem raftLeads_walk (t v b bt : Int) (la : Option Addr) (lc : Nat) (es : List En) (ca : Option Addr) (cc : Nat) (cs : List Cm) (w : World) (hl : LogIn w la lc es) (hcs : CmdsIn w ca cc cs) :
    Calls Try.prog 4 #[ballotV t v, logV b bt la es.length lc, .slice ca cs.length cc] w fun e w' => e = .returned (.bool true) ∧ Below w.heap.size w w' := by
  have g0 := alloc2_fst w (.cells #[.int .i64 t, .int .i64 v] 23) (.cells #[.int .i64 b, .int .i64 bt, .slice la es.length lc] 26)
  have g1 := alloc2_snd w (.cells #[.int .i64 t, .int .i64 v] 23) (.cells #[.int .i64 b, .int .i64 bt, .slice la es.length lc] 26)
  have hw0 := below2 w (.cells #[.int .i64 t, .int .i64 v] 23) (.cells #[.int .i64 b, .int .i64 bt, .slice la es.length lc] 26)
  by_cases h100 : 100 < (es.length : Int)
  · go_enter Try.func4, Try.ntmps4
    go_wp2_with (go_at_call 8; refine (raftAwake_any _).mono ?_; rintro e w1 ⟨rfl, hb1⟩; replace hw0 := hw0.trans (hb1.mono hw0.size); replace g1 := blk_keep hb1 g1; obtain ⟨lc0, lc1, lc2, lf0, lf1, lf2, llt⟩ := box3 g1)
    go_ret
    exact ⟨rfl, hw0⟩
  by_cases h60 : 60 < (cs.length : Int)
  · go_enter Try.func4, Try.ntmps4
    go_wp2_with (go_at_call 8; refine (raftAwake_any _).mono ?_; rintro e w1 ⟨rfl, hb1⟩; replace hw0 := hw0.trans (hb1.mono hw0.size); replace g1 := blk_keep hb1 g1; obtain ⟨lc0, lc1, lc2, lf0, lf1, lf2, llt⟩ := box3 g1)
    go_ret
    exact ⟨rfl, hw0⟩
  cases hok : newOk 1 ((1 : Nat) : Int) t v b bt es with
  | false =>
    have HN : Hid (∀ W, Below w.heap.size w W → Calls Try.prog 9 #[.int .i64 1, .int .i64 1, ballotV t v, logV b bt la es.length lc] W (RetNo W)) := fun W h => new_no 1 ((1 : Nat) : Int) t v b bt la lc es W (hl.below h) hok
    clear hok hl hcs
    go_enter Try.func4, Try.ntmps4
    go_wp2_with (first
      | (go_at_call 8; refine (raftAwake_any _).mono ?_; rintro e w1 ⟨rfl, hb1⟩; replace hw0 := hw0.trans (hb1.mono hw0.size); replace g0 := blk_keep hb1 g0; replace g1 := blk_keep hb1 g1; obtain ⟨bc0, bc1, bf0, bf1, blt⟩ := box2 g0; obtain ⟨lc0, lc1, lc2, lf0, lf1, lf2, llt⟩ := box3 g1)
      | (go_at_call 9; refine (HN.out _ hw0).mono ?_; rintro e w2 ⟨rfl, hb2⟩; replace hw0 := hw0.trans (hb2.mono hw0.size)))
    go_ret
    exact ⟨rfl, hw0⟩
  | true =>
    obtain ⟨hbt, hmok0⟩ := newMb_ok hok
    subst hbt
    have hb0 : b = 0 := by unfold newOk at hok; rw [decide_eq_true_eq] at hok; exact hok.2.2.2.2.2.2.1
    subst hb0
    have HN : Hid (∀ W, Below w.heap.size w W → Calls Try.prog 9 #[.int .i64 1, .int .i64 1, ballotV t v, logV 0 0 la es.length lc] W (RetNew (newMb 1 1 t v es) W)) := fun W h => new_yes 1 t v 1 la lc es W (hl.below h) hok
    have htr : 0 ≤ t ∧ t ≤ 1073741824 ∧ (v = 0 ∨ (1 ≤ v ∧ v ≤ 16)) := mayV_true hmok0.ballot
    by_cases ht : 1073741824 ≤ t
    · have HT : Hid (∀ W B a, MAt W B a (newMb 1 1 t v es) → Calls Try.prog 10 #[.pointer (some ⟨B, 0, none⟩)] W (RetR (newMb 1 1 t v es) [] B a W)) := fun W B a h => by have := timeout_any h hmok0; rwa [solo_late ht] at this
      have HRO : Hid (∀ W B a, MAt W B a (newMb 1 1 t v es) → Calls Try.prog 12 #[.pointer (some ⟨B, 0, none⟩)] W fun e w' => e = .returned (.int .i64 0) ∧ Below W.heap.size W w') := fun W B a h => role_any h
      have htd : decide (t ≥ 1073741824) = true := decide_eq_true ht
      generalize newMb 1 1 t v es = m0 at *
      clear hok hl hcs hmok0
      go_enter Try.func4, Try.ntmps4
      go_wp2_with (first
        | (go_at_call 8; refine (raftAwake_any _).mono ?_; rintro e w1 ⟨rfl, hb1⟩; replace hw0 := hw0.trans (hb1.mono hw0.size); replace g0 := blk_keep hb1 g0; replace g1 := blk_keep hb1 g1; obtain ⟨bc0, bc1, bf0, bf1, blt⟩ := box2 g0; obtain ⟨lc0, lc1, lc2, lf0, lf1, lf2, llt⟩ := box3 g1)
        | (go_at_call 9; refine (HN.out _ hw0).mono ?_; rintro e w2 ⟨B, a, rfl, H2, hF2, hb2⟩; have hws := hw0.size; replace hw0 := hw0.trans (hb2.mono hw0.size); replace g0 := blk_keep hb2 g0; have hff : ∀ y ∈ foot B a, w.heap.size ≤ y := fun y hy => Nat.le_trans hws (hF2 y hy); clear bc0 bc1 bf0 bf1 blt; obtain ⟨bc0, bc1, bf0, bf1, blt⟩ := box2 g0; have HH1 := Lib.hid (HT.out _ _ _ H2))
        | (go_at_call 10; refine HH1.out.mono ?_; rintro e w3 ⟨a3, B3, A3, c3, sl3, rfl, H3, S3, hB3, hf3, hms3⟩; have hb3 : Below w.heap.size w w3 := hw0.trans (S3.chg.to_below hff hw0.size); have HR3 := Lib.hid (HRO.out _ _ _ H3))
        | (go_at_call 12; refine HR3.out.mono ?_; rintro e w4 ⟨rfl, hb4⟩; have hb4' := hb3.trans (hb4.mono hb3.size)))
      go_ret
      exact ⟨rfl, hb4'⟩
    · have ht' : t < 1073741824 := by omega
      obtain ⟨hs, hst, hsv⟩ := solo_lead hok ht'
      have HT : Hid (∀ W B a, MAt W B a (newMb 1 1 t v es) → Calls Try.prog 10 #[.pointer (some ⟨B, 0, none⟩)] W (RetR (newMb 1 1 t v es).timeout.1 (newMb 1 1 t v es).timeout.2 B a W)) := fun W B a h => timeout_any h hmok0
      generalize (newMb 1 1 t v es).timeout.1 = m1 at HT hs hst hsv
      generalize (newMb 1 1 t v es).timeout.2 = L1 at HT
      generalize newMb 1 1 t v es = m0 at *
      have htd : decide (t ≥ 1073741824) = false := decide_eq_false (by omega)
      have hwr : IntKind.i64.wrap (t + 1) = t + 1 := wrap_id (by omega) (by omega)
      have HRO : Hid (∀ W a B, MAt W B a m1 → Calls Try.prog 12 #[.pointer (some ⟨B, 0, none⟩)] W fun e w' => e = .returned (.int .i64 2) ∧ Below W.heap.size W w') := fun W a B h => by have := role_any h; rwa [hs.role] at this
      have HBA : Hid (∀ W a B, MAt W B a m1 → Calls Try.prog 11 #[.pointer (some ⟨B, 0, none⟩)] W fun e w' => e = .returned (ballotV (t + 1) 1) ∧ Below W.heap.size W w') := fun W a B h => by have := ballot_any h; rwa [hst, hsv] at this
      have HS := Lib.hid hs
      have HC := Lib.hid hcs
      have hcl : (cs.length : Int) ≤ 60 := by omega
      clear hok hl hcs hmok0 hs hst hsv htr
      have hfl := fieldLog
      go_enter Try.func4, Try.ntmps4
      go_upto_region 10 with (first
        | (go_at_call 8; refine (raftAwake_any _).mono ?_; rintro e w1 ⟨rfl, hb1⟩; replace hw0 := hw0.trans (hb1.mono hw0.size); replace g0 := blk_keep hb1 g0; replace g1 := blk_keep hb1 g1; obtain ⟨bc0, bc1, bf0, bf1, blt⟩ := box2 g0; obtain ⟨lc0, lc1, lc2, lf0, lf1, lf2, llt⟩ := box3 g1)
        | (go_at_call 9; refine (HN.out _ hw0).mono ?_; rintro e w2 ⟨B, a, rfl, H2, hF2, hb2⟩; have hws := hw0.size; have hne0 : w.heap.size ∉ foot B a := (fun hc => by have := hF2 _ hc; have := blk_lt g0; omega); replace hw0 := hw0.trans (hb2.mono hw0.size); replace g0 := blk_keep hb2 g0; have hff : ∀ y ∈ foot B a, w.heap.size ≤ y := fun y hy => Nat.le_trans hws (hF2 y hy); clear bc0 bc1 bf0 bf1 blt; obtain ⟨bc0, bc1, bf0, bf1, blt⟩ := box2 g0; have HH1 := Lib.hid (HT.out _ _ _ H2))
        | (go_at_call 10; refine HH1.out.mono ?_; rintro e w3 ⟨a3, B3, A3, c3, sl3, rfl, H3, S3, hB3, hf3, hms3⟩; have hb3 : Below w.heap.size w w3 := hw0.trans (S3.chg.to_below hff hw0.size); have G3 := S3.keep g0 hne0; have hff3 : ∀ y ∈ foot B a3, w.heap.size ≤ y := fun y hy => (S3.sub y hy).elim (hff y) (fun q => Nat.le_trans hw0.size q)))
      clear bc0 bc1 bf0 bf1 blt lc0 lc1 lc2 lf0 lf1 lf2 llt
      obtain ⟨bc0, bc1, bf0, bf1, blt⟩ := box2 G3
      have HR3 := Lib.hid (HRO.out _ _ _ H3.drew)
      have HB3 := Lib.hid (HBA.out _ _ _ H3.drew)
      go_region_held3 (fun W => W.cell? ⟨w.heap.size, 0, none⟩ = some (.int .i64 t)) (first | with_reducible exact bc0 | with_reducible exact kc0 | with_reducible exact jc0 | go_keep) (first
        | (go_at_call 12; refine HR3.out.mono ?_; rintro e w4 ⟨rfl, hb4⟩; have hw4 : Below w.heap.size w w4 := hb3.drew.trans (hb4.mono hb3.size); have H4 := H3.drew.below hb4; have K4 := blk_keep hb4 (blk_drawn G3); obtain ⟨kc0, kc1, kf0, kf1, klt⟩ := box2 K4; have HB4 := Lib.hid (HBA.out _ _ _ H4))
        | (go_at_call 11; refine HB4.out.mono ?_; rintro e w5 ⟨rfl, hb5⟩; have hw5 : Below w.heap.size w w5 := hw4.trans (hb5.mono hw4.size); have H5 := H4.below hb5; have K5 := blk_keep hb5 K4; obtain ⟨jc0, jc1, jf0, jf1, jlt⟩ := box2 K5))
      go_wp2
      go_loopw [10] (fun i wr => ∃ (k : Nat) (a' : MA) (m : Mb), k ≤ cs.length ∧ i = .int .i64 (k : Int) ∧ Hid (Solo m) ∧ MAt wr B a' m ∧ (∀ y ∈ foot B a', w.heap.size ≤ y) ∧ Below w.heap.size w wr) (fun i _ => cs.length - (intOf i).toNat)
      case atStart => exact ⟨0, a3, m1, by omega, rfl, HS, H5, hff3, hw5⟩
      case round =>
        clear H2 H3 H4 H5 hff3 hf3 hms3 hw5 hw4 hb3 hw0 HB4 HB3 HR3 HH1 hF2 hff hne0 HBA HRO HT HN bc0 bc1 bf0 bf1 blt kc0 kc1 kf0 kf1 klt jc0 jc1 jf0 jf1 jlt HS
        obtain ⟨k, a6, m, hk, rfl, HS, H6, hff6, hw6⟩ := hrel
        have hk0 : (0 : Int) ≤ (k : Int) := by omega
        by_cases hlt : k < cs.length
        · have hk1 : (k : Int) < (cs.length : Int) := by omega
          have HC6 := HC.out.below hw6
          obtain ⟨nb, noff, rfl, nlt, n0, n1, n2, n3, n4, n5⟩ := cmd_cells HC6 hlt
          generalize hcc : (cs[k]'hlt) = c at n0 n1 n2 n3 n4 n5
          have hL64 := HS.out.ok.len64
          have HLO6 := Lib.hid (mlog_any H6 hL64)
          by_cases hfull : 64 ≤ m.log.length
          · have HP : Hid (∀ W, MAt W B a6 m → Calls Try.prog 16 #[.pointer (some ⟨B, 0, none⟩), cmV c] W (RetP (m, 0, [], 7) B a6 W)) := fun W h => by have := propose_any h HS.out.ok c; rwa [solo_full HS.out c hfull] at this
            have hfd : (64 : Int) ≤ (m.log.length : Int) := by omega
            clear HS
            go_wp2_with (first
              | (go_at_call 14; refine HLO6.out.mono ?_; rintro e w7 ⟨A7, c7, rfl, own7, hb7⟩; have hw7 := hw6.trans (hb7.mono hw6.size); have H7 := H6.below hb7; have HP7 := Lib.hid (HP.out _ H7); have e0 := ((bcell hb7).1 nb (noff + k * 6) nlt).trans n0; have e1 := ((bcell hb7).1 nb (noff + k * 6 + 1) nlt).trans n1; have e2 := ((bcell hb7).1 nb (noff + k * 6 + 2) nlt).trans n2; have e3 := ((bcell hb7).1 nb (noff + k * 6 + 3) nlt).trans n3; have e4 := ((bcell hb7).1 nb (noff + k * 6 + 4) nlt).trans n4; have e5 := ((bcell hb7).1 nb (noff + k * 6 + 5) nlt).trans n5; have elt := Nat.lt_of_lt_of_le nlt hb7.size)
              | (go_at_call 16; refine HP7.out.mono ?_; rintro e w8 ⟨a8, B8, A8, c8, sl8, rfl, H8, S8, hB8, hf8, hms8⟩; have hw8 : Below w.heap.size w w8 := hw7.trans (S8.chg.to_below hff6 hw7.size); have HLO8 := Lib.hid (mlog_any H8 hL64))
              | (go_at_call 14; refine HLO8.out.mono ?_; rintro e w9 ⟨A9, c9, rfl, own9, hb9⟩; have hw9 := hw8.trans (hb9.mono hw8.size)))
            go_ret
            exact ⟨rfl, hw9⟩
          · obtain ⟨hs2, hlog, hset, _, _, _, _⟩ := solo_took HS.out (by omega) c
            have HP : Hid (∀ W, MAt W B a6 m → Calls Try.prog 16 #[.pointer (some ⟨B, 0, none⟩), cmV c] W (RetP (m.took c, (m.log.length : Int) + 1, [], 0) B a6 W)) := fun W h => by have := propose_any h HS.out.ok c; rwa [solo_prop HS.out c (by omega)] at this
            generalize m.took c = m2 at HP hs2 hlog hset
            have hlen2 : Hid (m2.log.length = m.log.length + 1) := by rw [Hid, hlog]; simp
            have hent : ∀ (h : m.log.length < m2.log.length), m2.log[m.log.length] = (m.term, c) := fun h => by simp [hlog]
            have hent := Lib.hid hent
            have HS2 := Lib.hid hs2
            have hL2 := hs2.ok.len64
            have hset := Lib.hid hset
            have HSQ : Hid (∀ W a, MAt W B a m2 → Calls Try.prog 15 #[.pointer (some ⟨B, 0, none⟩)] W fun e w' => e = .returned (.int .i64 ((m.log.length : Int) + 1)) ∧ w' = W) := fun W a h => by have := settledQ h; rwa [hset.out] at this
            have hfd : ¬ (64 : Int) ≤ (m.log.length : Int) := by omega
            have hLn : m.log.length < m2.log.length := by rw [hlen2.out]; omega
            generalize hLe : m.log.length = L at *
            have hLe := Lib.hid hLe
            have hwr1 : IntKind.i64.wrap ((L : Int) + 1) = (L : Int) + 1 := wrap_id (by omega) (by omega)
            have hwr2 : IntKind.i64.wrap ((L : Int) + 1 - 1) = (L : Int) := by rw [show (L : Int) + 1 - 1 = (L : Int) by omega]; exact wrap_id (by omega) (by omega)
            have hL0 : (0 : Int) ≤ (L : Int) := by omega
            have hL1 : (L : Int) < (L : Int) + 1 := by omega
            clear hs2 hlog HS hL64
            go_upto_region 20 with (first
              | (go_at_call 14; refine HLO6.out.mono ?_; rintro e w7 ⟨A7, c7, rfl, own7, hb7⟩; rw [hLe.out]; have hw7 := hw6.trans (hb7.mono hw6.size); have H7 := H6.below hb7; have HP7 := Lib.hid (HP.out _ H7); have e0 := ((bcell hb7).1 nb (noff + k * 6) nlt).trans n0; have e1 := ((bcell hb7).1 nb (noff + k * 6 + 1) nlt).trans n1; have e2 := ((bcell hb7).1 nb (noff + k * 6 + 2) nlt).trans n2; have e3 := ((bcell hb7).1 nb (noff + k * 6 + 3) nlt).trans n3; have e4 := ((bcell hb7).1 nb (noff + k * 6 + 4) nlt).trans n4; have e5 := ((bcell hb7).1 nb (noff + k * 6 + 5) nlt).trans n5; have elt := Nat.lt_of_lt_of_le nlt hb7.size)
              | (go_at_call 16; refine HP7.out.mono ?_; rintro e w8 ⟨a8, B8, A8, c8, sl8, rfl, H8, S8, hB8, hf8, hms8⟩; have hw8 : Below w.heap.size w w8 := hw7.trans (S8.chg.to_below hff6 hw7.size); have hff8 : ∀ y ∈ foot B a8, w.heap.size ≤ y := (fun y hy => (S8.sub y hy).elim (hff6 y) (fun q => Nat.le_trans hw7.size q)); have HLO8 := Lib.hid (mlog_any H8 hL2))
              | (go_at_call 14; refine HLO8.out.mono ?_; rintro e w9 ⟨A9, c9, rfl, own9, hb9⟩; go_loud (obtain ⟨mb, moff, rfl, mlt, q0, q1, q2, q3, q4, q5, q6⟩ := entry_cells (RowAt.of_own own9) hLn; rw [hent.out hLn] at q0 q1 q2 q3 q4 q5 q6; rw [hlen2.out]; have hw9 := hw8.trans (hb9.mono hw8.size); have H9 := H8.below hb9; have HC9 := HC.out.below hw9; obtain ⟨pb, poff, pe, plt, p0, p1, p2, p3, p4, p5⟩ := cmd_cells HC9 hlt; cases pe; rw [hcc] at p0 p1 p2 p3 p4 p5)))
            have HSQ9 := Lib.hid (fun n => HSQ.out _ _ (H9.many n))
            try simp only at q0 q1 q2 q3 q4 q5 q6
            clear HLO8 HLO6 HP HP7 H6 H7 H8 S8 hms8 hf8 HC6 HSQ own7 own9 hb7 hb9 n0 n1 n2 n3 n4 n5
            go_quiet ((go_at_call 15; exact Calls.quiet_of_same (HSQ9.out _)))
            go_wp2
            go_roundw
            case rel => exact ⟨k + 1, _, _, by omega, by go_num, HS2, H9.many _, hff8, Below.many hw9 _⟩
            case measure => simp [intOf]; omega
        · have hk1 : ¬ (k : Int) < (cs.length : Int) := by omega
          go_wp2
          go_ret
          exact ⟨rfl, hw6⟩
end Go.Proofs.Ytlejbhgginolgaa
