/-
  The law of the times out.
-/
import Derived.Test.YtlejbhgginolgaaRaftT
import Derived.Test.YtlejbhgginolgaaRaftV
namespace Go.Proofs.Ytlejbhgginolgaa
open Go.RowKit
set_option linter.unusedVariables false
/-- One that does not lead has timed out so many times. -/
structure Timed (m0 m : Mb) (k : Nat) : Prop where
  ok : MbOk m
  id : m.id = m0.id
  prog : m.prog = m0.prog
  log : m.log = m0.log
  role : m.role ≠ 2
  term : m.term = m0.term + k
  settled : m.settled = 0
/-- What it says then. -/
structure Asks (m0 m : Mb) (ms : List Ms) : Prop where
  len : (ms.length : Int) = (m0.prog.length : Int) - 1
  each : ∀ j (hj : j < ms.length), ms[j].kind = 0 ∧ ms[j].frm = m0.id ∧ ms[j].dst ≠ m0.id ∧ ms[j].term = m.term ∧ ms[j].index = (m0.log.length : Int)
  up : ∀ i j (hi : i < ms.length) (hj : j < ms.length), i < j → ms[i].dst < ms[j].dst
theorem timed_next {m0 m : Mb} {k : Nat} (h : Timed m0 m k) (hn : 2 ≤ m0.prog.length) (ht : m0.term + k < 1073741824) :
    m.timeout = (m.stand, m.stand.asks) ∧ Timed m0 m.stand (k + 1) ∧ m.stand.vote = m0.id ∧ m.stand.role = 1 ∧ m.stand.term = m0.term + (k : Int) + 1 ∧ Asks m0 m.stand m.stand.asks := by
  have hterm := h.term
  have hs := h.ok.stand (by omega)
  have hwon : m.stand.won = false := by
    unfold Mb.won Mb.stand majN
    simp only [h.prog, List.length_singleton]
    rw [decide_eq_false_iff_not]
    omega
  have hto : m.timeout = (m.stand, m.stand.asks) := by
    unfold Mb.timeout
    have := h.role
    rw [if_neg (by omega), if_neg (by rw [hwon]; decide)]
  have hlast : lastF 0 0 m.stand.log = ((m.stand.log.length : Int), endT m.stand.log 0) := lastF_may hs.log
  refine ⟨hto, ⟨hs, h.id, h.prog, h.log, by show (1 : Int) ≠ 2; decide, by show m.term + 1 = _; push_cast; omega, h.settled⟩, h.id, rfl, by show m.term + 1 = _; omega, ?_, ?_, ?_⟩
  · unfold Mb.asks
    rw [toAll_len]
    have h1 : m.stand.id = m0.id := h.id
    have h2 : m.stand.prog.length = m0.prog.length := by show m.prog.length = _; rw [h.prog]
    have h3 := h.ok.id1
    have h4 := h.ok.idn
    have h5 := h.id
    rw [h.prog] at h4
    rw [h1, h2, if_pos (by omega)]
    omega
  · intro j hj
    obtain ⟨i, h1, h2, h3⟩ := toAll_mem (List.getElem_mem hj)
    rw [h3]
    have h4 : m.stand.id = m0.id := h.id
    rw [h4] at h2
    refine ⟨rfl, h4, h2, rfl, ?_⟩
    show (lastF 0 0 m.stand.log).1 = _
    rw [hlast]
    show (m.log.length : Int) = _
    rw [h.log]
  · intro i j hi hj hij
    exact List.pairwise_iff_getElem.1 (toAll_sorted m.stand.id m.stand.ask (fun _ => rfl) m.stand.prog.length) i j hi hj hij
theorem timed_new {id : Int} {n : Nat} {t v : Int} {es : List En} (h : newOk id n t v 0 0 es = true) : Timed (newMb id n t v es) (newMb id n t v es) 0 := ⟨(newMb_ok h).2, rfl, rfl, rfl, by show (0 : Int) ≠ 2; decide, by simp, rfl⟩
/-- One message's cells. -/
theorem msg_cells {w : World} {A : Option Addr} {ms : List Ms} {sl : List (Option Addr × Nat)} (h : RowAt w A (msV ms sl)) {k : Nat} (hk : k < ms.length) :
    ∃ b off, A = some ⟨b, off, none⟩ ∧ b < w.heap.size ∧ w.cell? ⟨b, off + k * 9, none⟩ = some (.int .i64 (ms[k]).kind) ∧ w.cell? ⟨b, off + k * 9 + 1, none⟩ = some (.int .i64 (ms[k]).frm) ∧ w.cell? ⟨b, off + k * 9 + 2, none⟩ = some (.int .i64 (ms[k]).dst) ∧
      w.cell? ⟨b, off + k * 9 + 3, none⟩ = some (.int .i64 (ms[k]).term) ∧ w.cell? ⟨b, off + k * 9 + 4, none⟩ = some (.int .i64 (ms[k]).index) := by
  have hj : ∀ j, j < 9 → (msV ms sl)[k * 9 + j]? = _ := fun j hj => msV_at (sl := sl) hk hj
  rcases h with h | ⟨b, off, ha, hlt, hc⟩
  · have := congrArg List.length h
    rw [msV_length] at this
    simp at this
    omega
  · refine ⟨b, off, ha, hlt, ?_⟩
    have e : ∀ j, off + k * 9 + j = off + (k * 9 + j) := fun j => by omega
    rw [e 1, e 2, e 3, e 4]
    exact ⟨hc _ _ (hj 0 (by omega)), hc _ _ (hj 1 (by omega)), hc _ _ (hj 2 (by omega)), hc _ _ (hj 3 (by omega)), hc _ _ (hj 4 (by omega))⟩
theorem settledQ {w : World} {b : Nat} {a : MA} {m : Mb} (h : MAt w b a m) : Calls Try.prog 15 #[.pointer (some ⟨b, 0, none⟩)] w fun e w' => e = .returned (.int .i64 m.settled) ∧ w' = w := by
  obtain ⟨c0, c1, c2, c3, c4, c5, c6, c7, c8, c9, hlt⟩ := box10 h.blk
  go_enter Try.func15, Try.ntmps15
  go_wp2
  go_ret
  exact ⟨rfl, rfl⟩
theorem roleQ {w : World} {b : Nat} {a : MA} {m : Mb} (h : MAt w b a m) : Calls Try.prog 12 #[.pointer (some ⟨b, 0, none⟩)] w fun e w' => e = .returned (.int .i64 m.role) ∧ w' = w := by
  obtain ⟨c0, c1, c2, c3, c4, c5, c6, c7, c8, c9, hlt⟩ := box10 h.blk
  go_enter Try.func12, Try.ntmps12
  go_wp2
  go_ret
  exact ⟨rfl, rfl⟩
set_option maxRecDepth 100000 in
set_option maxHeartbeats 6400000 in
theorem raftTimes_walk (id many t v b bt : Int) (la : Option Addr) (lc : Nat) (es : List En) (times : Int) (w : World) (hl : LogIn w la lc es) :
    Calls Try.prog 3 #[.int .i64 id, .int .i64 many, ballotV t v, logV b bt la es.length lc, .int .i64 times] w fun e w' => e = .returned (.bool true) ∧ Below w.heap.size w w' := by
  have g0 := alloc2_fst w (.cells #[.int .i64 t, .int .i64 v] 23) (.cells #[.int .i64 b, .int .i64 bt, .slice la es.length lc] 26)
  have g1 := alloc2_snd w (.cells #[.int .i64 t, .int .i64 v] 23) (.cells #[.int .i64 b, .int .i64 bt, .slice la es.length lc] 26)
  have hw0 := below2 w (.cells #[.int .i64 t, .int .i64 v] 23) (.cells #[.int .i64 b, .int .i64 bt, .slice la es.length lc] 26)
  by_cases hq1 : many < 2
  · clear hl
    go_enter Try.func3, Try.ntmps3
    go_wp2_with (go_at_call 8; refine (raftAwake_any _).mono ?_; rintro e w1 ⟨rfl, hb1⟩; replace hw0 := hw0.trans (hb1.mono hw0.size); replace g0 := blk_keep hb1 g0; replace g1 := blk_keep hb1 g1; obtain ⟨bc0, bc1, bf0, bf1, blt⟩ := box2 g0; obtain ⟨lc0, lc1, lc2, lf0, lf1, lf2, llt⟩ := box3 g1)
    go_ret
    exact ⟨rfl, hw0⟩
  by_cases hq2 : 100 < (es.length : Int)
  · clear hl
    go_enter Try.func3, Try.ntmps3
    go_wp2_with (go_at_call 8; refine (raftAwake_any _).mono ?_; rintro e w1 ⟨rfl, hb1⟩; replace hw0 := hw0.trans (hb1.mono hw0.size); replace g0 := blk_keep hb1 g0; replace g1 := blk_keep hb1 g1; obtain ⟨bc0, bc1, bf0, bf1, blt⟩ := box2 g0; obtain ⟨lc0, lc1, lc2, lf0, lf1, lf2, llt⟩ := box3 g1)
    go_ret
    exact ⟨rfl, hw0⟩
  by_cases hq3 : times < 1
  · clear hl
    go_enter Try.func3, Try.ntmps3
    go_wp2_with (go_at_call 8; refine (raftAwake_any _).mono ?_; rintro e w1 ⟨rfl, hb1⟩; replace hw0 := hw0.trans (hb1.mono hw0.size); replace g0 := blk_keep hb1 g0; replace g1 := blk_keep hb1 g1; obtain ⟨bc0, bc1, bf0, bf1, blt⟩ := box2 g0; obtain ⟨lc0, lc1, lc2, lf0, lf1, lf2, llt⟩ := box3 g1)
    go_ret
    exact ⟨rfl, hw0⟩
  by_cases hq4 : 50 < times
  · clear hl
    go_enter Try.func3, Try.ntmps3
    go_wp2_with (go_at_call 8; refine (raftAwake_any _).mono ?_; rintro e w1 ⟨rfl, hb1⟩; replace hw0 := hw0.trans (hb1.mono hw0.size); replace g0 := blk_keep hb1 g0; replace g1 := blk_keep hb1 g1; obtain ⟨bc0, bc1, bf0, bf1, blt⟩ := box2 g0; obtain ⟨lc0, lc1, lc2, lf0, lf1, lf2, llt⟩ := box3 g1)
    go_ret
    exact ⟨rfl, hw0⟩
  by_cases hq5 : 1073741724 < t
  · clear hl
    go_enter Try.func3, Try.ntmps3
    go_wp2_with (go_at_call 8; refine (raftAwake_any _).mono ?_; rintro e w1 ⟨rfl, hb1⟩; replace hw0 := hw0.trans (hb1.mono hw0.size); replace g0 := blk_keep hb1 g0; replace g1 := blk_keep hb1 g1; obtain ⟨bc0, bc1, bf0, bf1, blt⟩ := box2 g0; obtain ⟨lc0, lc1, lc2, lf0, lf1, lf2, llt⟩ := box3 g1)
    go_ret
    exact ⟨rfl, hw0⟩
  cases hok : newOk id many t v b bt es with
  | false =>
    have HN : Hid (∀ W, Below w.heap.size w W → Calls Try.prog 9 #[.int .i64 id, .int .i64 many, ballotV t v, logV b bt la es.length lc] W (RetNo W)) := fun W h => new_no id many t v b bt la lc es W (hl.below h) hok
    clear hok hl
    go_enter Try.func3, Try.ntmps3
    go_wp2_with (first
      | (go_at_call 8; refine (raftAwake_any _).mono ?_; rintro e w1 ⟨rfl, hb1⟩; replace hw0 := hw0.trans (hb1.mono hw0.size); replace g0 := blk_keep hb1 g0; replace g1 := blk_keep hb1 g1; obtain ⟨bc0, bc1, bf0, bf1, blt⟩ := box2 g0; obtain ⟨lc0, lc1, lc2, lf0, lf1, lf2, llt⟩ := box3 g1)
      | (go_at_call 9; refine (HN.out _ hw0).mono ?_; rintro e w2 ⟨rfl, hb2⟩; replace hw0 := hw0.trans (hb2.mono hw0.size)))
    go_ret
    exact ⟨rfl, hw0⟩
  | true =>
    obtain ⟨n, rfl⟩ : ∃ n : Nat, many = (n : Int) := ⟨many.toNat, by omega⟩
    obtain ⟨hbt, hmok0⟩ := newMb_ok hok
    subst hbt
    have hb0 : b = 0 := by unfold newOk at hok; rw [decide_eq_true_eq] at hok; exact hok.2.2.2.2.2.2.1
    subst hb0
    have hn16 : n ≤ 16 := by unfold newOk at hok; rw [decide_eq_true_eq] at hok; omega
    have HN : Hid (∀ W, Below w.heap.size w W → Calls Try.prog 9 #[.int .i64 id, .int .i64 (n : Int), ballotV t v, logV 0 0 la es.length lc] W (RetNew (newMb id n t v es) W)) := fun W h => new_yes id t v n la lc es W (hl.below h) hok
    have HT0 := Lib.hid (timed_new hok)
    have hm1 : (newMb id n t v es).prog.length = n := by simp [newMb]
    have hm2 : (newMb id n t v es).term = t := rfl
    have hm3 : (newMb id n t v es).id = id := rfl
    have hm4 : (newMb id n t v es).log = es := rfl
    have htr : 0 ≤ t := (mayV_true hmok0.ballot).1
    generalize newMb id n t v es = m0 at *
    have HM1 := Lib.hid hm1
    have HM2 := Lib.hid hm2
    have HM3 := Lib.hid hm3
    have HM4 := Lib.hid hm4
    have HLOGS : Hid (∀ W A c, W.ownsRow 0 47 7 (.slice A es.length c) es.length (ensV es) → Below w.heap.size w W → Calls Try.prog 13 #[logV 0 0 A es.length c, logV 0 0 la es.length lc] W fun e w' => e = .returned (.bool true) ∧ Below W.heap.size W w') := fun W A c ho hW => by
      have := logs_any 0 0 A c es 0 0 la lc es W (LogIn.of_own ho) (hl.below hW)
      simpa using this
    clear hok hl hmok0 hm1 hm2 hm3 hm4
    go_enter Try.func3, Try.ntmps3
    go_wp2_with (first
      | (go_at_call 8; refine (raftAwake_any _).mono ?_; rintro e w1 ⟨rfl, hb1⟩; replace hw0 := hw0.trans (hb1.mono hw0.size); replace g0 := blk_keep hb1 g0; replace g1 := blk_keep hb1 g1; obtain ⟨bc0, bc1, bf0, bf1, blt⟩ := box2 g0; obtain ⟨lc0, lc1, lc2, lf0, lf1, lf2, llt⟩ := box3 g1)
      | (go_at_call 9; refine (HN.out _ hw0).mono ?_; rintro e w2 ⟨B, a, rfl, H2, hF2, hb2⟩; have hff : ∀ y ∈ foot B a, w.heap.size + 2 ≤ y := (fun y hy => (by have := hF2 _ hy; have := blk_lt g1; omega)); replace hw0 := hw0.trans (hb2.mono hw0.size); replace g0 := blk_keep hb2 g0; replace g1 := blk_keep hb2 g1; clear bc0 bc1 bf0 bf1 blt lc0 lc1 lc2 lf0 lf1 lf2 llt))
    go_loopw [14] (fun i wr => ∃ (k : Nat) (a' : MA) (m : Mb), (k : Int) ≤ times ∧ i = .int .i64 ((k : Int) + 1) ∧ Hid (Timed m0 m k) ∧ MAt wr B a' m ∧ (∀ y ∈ foot B a', w.heap.size + 2 ≤ y) ∧ Below w.heap.size w wr ∧ wr.heap[w.heap.size]? = some (.cells #[.int .i64 t, .int .i64 v] 23) ∧ wr.heap[w.heap.size + 1]? = some (.cells #[.int .i64 0, .int .i64 0, .slice la es.length lc] 26)) (fun i _ => (times + 1 - intOf i).toNat)
    case atStart => exact ⟨0, a, m0, by omega, rfl, HT0, H2, hff, hw0, g0, g1⟩
    case round =>
      clear H2 hff hw0 g0 g1 HT0 hF2 HN hb1 hb2
      obtain ⟨k, a6, m, hk, rfl, HS, H6, hff6, hw6, g0, g1⟩ := hrel
      by_cases hlt : (k : Int) + 1 ≤ times
      · obtain ⟨e1, HS2, e2, e3, e4, HA⟩ := timed_next HS.out (by rw [HM1.out]; omega) (by rw [HM2.out]; omega)
        have HTO : Hid (Calls Try.prog 10 #[.pointer (some ⟨B, 0, none⟩)] wr (RetR m.stand m.stand.asks B a6 wr)) := by have := timeout_any H6 HS.out.ok; rwa [e1] at this
        have hro : m.stand.role = 1 := rfl
        generalize m.stand = m2 at *
        generalize m2.asks = ms at *
        have HLE := Lib.hid HA.len
        have HE := Lib.hid HA.each
        have HU := Lib.hid HA.up
        rw [HM1.out] at HLE
        rw [HM3.out, HM4.out] at HE
        rw [HM2.out] at e4
        rw [HM3.out] at e2
        rw [e4] at HE
        clear HA e1
        have HS2 := Lib.hid HS2
        have hwl : IntKind.i64.wrap ((n : Int) - 1) = (n : Int) - 1 := wrap_id (by omega) (by omega)
        have hwt : IntKind.i64.wrap (t + ((k : Int) + 1)) = t + (k : Int) + 1 := by rw [wrap_id (by omega) (by omega)]; omega
        have hmr : Hid (m2.role = 1) := hro
        have hmb : Hid (∀ W a, MAt W B a m2 → Calls Try.prog 11 #[.pointer (some ⟨B, 0, none⟩)] W fun e w' => e = .returned (ballotV (t + (k : Int) + 1) id) ∧ Below W.heap.size W w') := fun W a h => by have := ballot_any h; rwa [e4, e2] at this
        have HRQ : Hid (∀ W a, MAt W B a m2 → Calls Try.prog 12 #[.pointer (some ⟨B, 0, none⟩)] W fun e w' => e = .returned (.int .i64 1) ∧ w' = W) := fun W a h => by have := roleQ h; rwa [hmr.out] at this
        clear e2 e3 e4 hro
        go_upto_region 12 with (first
          | (go_at_call 10; refine HTO.out.mono ?_; rintro e w7 ⟨a7, B7, A7, c7, sl7, rfl, H7, S7, hB7, hf7, hms7⟩; have hw7 : Below w.heap.size w w7 := hw6.trans (S7.chg.to_below (fun x hx => Nat.le_trans (Nat.le_add_right _ 2) (hff6 x hx)) hw6.size); have hff7 : ∀ y ∈ foot B a7, w.heap.size + 2 ≤ y := (fun y hy => (S7.sub y hy).elim (hff6 y) (fun q => Nat.le_trans (blk_lt g1) q)); have G0 := S7.keep g0 (fun hc => (by have := hff6 _ hc; omega)); have G1 := S7.keep g1 (fun hc => (by have := hff6 _ hc; omega)); have HB7 := Lib.hid (hmb.out _ _ H7))
          | (go_at_call 11; refine HB7.out.mono ?_; rintro e w8 ⟨rfl, hb8⟩; have hw8 := hw7.trans (hb8.mono hw7.size); have H8 := H7.below hb8; have K0 := blk_keep hb8 G0; have K1 := blk_keep hb8 G1; have M8 := hms7.below hb8))
        have hle : ((ms.length : Int) != (n : Int) - 1) = false := by rw [HLE.out]; simp
        have hw9 := hw8.trans ((below1 w8 (.cells #[.int .i64 (t + (k : Int) + 1), .int .i64 id] 23)).mono hw8.size)
        have H9 := H8.below (below1 w8 (.cells #[.int .i64 (t + (k : Int) + 1), .int .i64 id] 23))
        have J0 := blk_keep (below1 w8 (.cells #[.int .i64 (t + (k : Int) + 1), .int .i64 id] 23)) K0
        have J1 := blk_keep (below1 w8 (.cells #[.int .i64 (t + (k : Int) + 1), .int .i64 id] 23)) K1
        have JN := blk_new w8 (.cells #[.int .i64 (t + (k : Int) + 1), .int .i64 id] 23)
        have M9 := RowAt.of_own (M8.below (below1 w8 (.cells #[.int .i64 (t + (k : Int) + 1), .int .i64 id] 23))).own
        clear hb8 HB7 HTO H7 H8 H6 K0 K1 G0 G1 M8 hms7 hf7 S7 hw7 hw8 hmb
        generalize w8.alloc (.cells #[.int .i64 (t + (k : Int) + 1), .int .i64 id] 23) = w9 at *
        generalize w8.heap.size = F9 at *
        have HRQ9 := Lib.hid (HRQ.out _ _ H9)
        obtain ⟨bc0, bc1, bf0, bf1, blt⟩ := box2 J0
        obtain ⟨nc0, nc1, nf0, nf1, nlt⟩ := box2 JN
        go_wp2_with (go_at_call 12; refine HRQ9.out.mono ?_; rintro e wx ⟨rfl, hwx⟩; subst hwx)
        have hms16 : ms.length < 1000 := by have := HLE.out; omega
        go_loopw [17] (fun i wz => ∃ j : Nat, j ≤ ms.length ∧ i = .int .i64 (j : Int) ∧ MAt wz B a7 m2 ∧ Below w.heap.size w wz ∧ wz.heap[w.heap.size]? = some (.cells #[.int .i64 t, .int .i64 v] 23) ∧ wz.heap[w.heap.size + 1]? = some (.cells #[.int .i64 0, .int .i64 0, .slice la es.length lc] 26) ∧ wz.heap[F9]? = some (.cells #[.int .i64 (t + (k : Int) + 1), .int .i64 id] 23) ∧ RowAt wz A7 (msV ms sl7)) (fun i _ => ms.length - (intOf i).toNat)
        case atStart => exact ⟨0, by omega, rfl, H9, hw9, J0, J1, JN, M9⟩
        case round =>
          clear H9 hw9 J0 J1 JN M9 bc0 bc1 bf0 bf1 blt nc0 nc1 nf0 nf1 nlt HRQ9 g0 g1 hw6
          obtain ⟨j, hj, rfl, H9, hw9, J0, J1, JN, M9⟩ := hrel
          have hj0 : (0 : Int) ≤ (j : Int) := by omega
          by_cases hjl : j < ms.length
          · have hj1 : (j : Int) < (ms.length : Int) := by omega
            obtain ⟨x1, x2, x3, x4, x5⟩ := HE.out j hjl
            obtain ⟨lc0, lc1, lc2, lf0, lf1, lf2, llt⟩ := box3 J1
            obtain ⟨nc0, nc1, nf0, nf1, nlt⟩ := box2 JN
            obtain ⟨mb, moff, rfl, mlt, q0, q1, q2, q3, q4⟩ := msg_cells M9 hjl
            rw [x1] at q0
            rw [x2] at q1
            rw [x4] at q3
            rw [x5] at q4
            have hd : ((ms[j]'hjl).dst == id) = false := by simpa using x3
            by_cases hjz : j = 0
            · have hjd : decide (0 < (j : Int)) = false := by simp [hjz]
              have hjn : decide (0 < j) = false := by simp [hjz]
              generalize (ms[j]'hjl).dst = D at *
              clear hjz
              go_wp2_with (fail)
              go_quiet (fail)
              go_wp2
              go_roundw
              case rel => exact ⟨j + 1, by omega, by go_num, H9.many _, Below.many hw9 _, J0, J1, JN, M9.drewN _⟩
              case measure => simp [intOf]; omega
            · have hjd : decide (0 < (j : Int)) = true := by simp; omega
              have hjn : decide (0 < j) = true := by simp; omega
              obtain ⟨P, hP⟩ : ∃ P : Nat, (P : Int) = (j : Int) - 1 := ⟨j - 1, by omega⟩
              have hPl : P < ms.length := by omega
              have hwP : IntKind.i64.wrap ((j : Int) - 1) = (P : Int) := by rw [hP]; exact wrap_id (by omega) (by omega)
              have hP0 : (0 : Int) ≤ (P : Int) := by omega
              have hP1 : (P : Int) < (ms.length : Int) := by omega
              obtain ⟨pb, poff, pe, plt, _, _, p2, _, _⟩ := msg_cells M9 hPl
              cases pe
              have hup := HU.out P j hPl hjl (by omega)
              generalize (ms[j]'hjl).dst = D at *
              generalize (ms[P]'hPl).dst = D' at *
              have hupd : decide (D ≤ D') = false := decide_eq_false (by omega)
              clear hjz hP hup
              go_wp2_with (fail)
              go_quiet (fail)
              go_wp2
              go_roundw
              case rel => exact ⟨j + 1, by omega, by go_num, H9.many _, Below.many hw9 _, J0, J1, JN, M9.drewN _⟩
              case measure => simp [intOf]; omega
          · have hj1 : ¬ (j : Int) < (ms.length : Int) := by omega
            clear HE HU HLE
            go_wp2
            go_roundw
            case rel => exact ⟨k + 1, a7, m2, by omega, by go_num, HS2, H9, hff7, hw9, J0, J1⟩
            case measure => simp [intOf]; omega
      · have hlt' : ¬ (k : Int) + 1 ≤ times := hlt
        have hset := HS.out.settled
        have hlog := HS.out.log
        rw [HM4.out] at hlog
        have HLO : Hid (∀ W, MAt W B a6 m → Calls Try.prog 14 #[.pointer (some ⟨B, 0, none⟩)] W (RetLogM es W)) := fun W h => by have := mlog_any h HS.out.ok.len64; rwa [hlog] at this
        have HSE : Hid (∀ W, MAt W B a6 m → Calls Try.prog 15 #[.pointer (some ⟨B, 0, none⟩)] W fun e w' => e = .returned (.int .i64 0) ∧ w' = W) := fun W h => by have := settledQ h; rwa [hset] at this
        clear hset hlog HS
        obtain ⟨lc0, lc1, lc2, lf0, lf1, lf2, llt⟩ := box3 g1
        have hfl := fieldLog
        go_wp2_with (fail)
        have HLO3 := Lib.hid (HLO.out _ H6.drew)
        go_cut [18] (fun c wx => c = .bool true ∧ MAt wx B a6 m ∧ Below w.heap.size w wx)
        case first =>
          go_region_held3 (fun W => W.cell? ⟨w.heap.size + 1, 0, none⟩ = some (.int .i64 0) ∧ W.cell? ⟨w.heap.size + 1, 1, none⟩ = some (.int .i64 0) ∧ W.cell? ⟨w.heap.size + 1, 2, none⟩ = some (.slice la es.length lc)) (first | with_reducible exact ⟨lc0, lc1, lc2⟩ | with_reducible exact ⟨kc0, kc1, kc2⟩ | with_reducible exact ⟨jc0, jc1, jc2⟩ | go_keep) (first
            | (go_at_call 14; refine HLO3.out.mono ?_; rintro e w4 ⟨A4, c4, rfl, own4, hb4⟩; have hb4' : Below w.heap.size w w4 := hw6.drew.trans (hb4.mono hw6.size); have K1 := blk_keep hb4 (blk_drawn g1); obtain ⟨kc0, kc1, kc2, kf0, kf1, kf2, klt⟩ := box3 K1; have H4 := H6.drew.below hb4)
            | (go_at_call 13; refine (HLOGS.out _ _ _ (own_base own4 (Nat.zero_le _)) hb4').mono ?_; rintro e w5 ⟨rfl, hb5⟩; have hb5' := hb4'.trans (hb5.mono hb4'.size); have J1 := blk_keep hb5 K1; obtain ⟨jc0, jc1, jc2, jf0, jf1, jf2, jlt⟩ := box3 J1; have H5 := H4.below hb5))
          all_goals (go_wp2_with fail; go_meet)
          all_goals exact ⟨rfl, H5, hb5'⟩
        case rest =>
          obtain ⟨rfl, H7, hb7⟩ := hcut
          have HSE7 := Lib.hid (HSE.out _ H7)
          go_wp2_with (go_at_call 15; refine HSE7.out.mono ?_; rintro e wx ⟨rfl, hwx⟩; subst hwx)
          go_ret
          exact ⟨rfl, hb7⟩
end Go.Proofs.Ytlejbhgginolgaa
