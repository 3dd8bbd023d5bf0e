/-
  The law that a member who follows adds what it is told, and says so.
-/
import Derived.Test.YtlejbhgginolgaaRaftT
import Derived.Test.YtlejbhgginolgaaRaftR
namespace Go.Proofs.Ytlejbhgginolgaa
open Go.RowKit
set_option linter.unusedVariables false
theorem addF_again {es : List En} {i T : Int} {more : List En} (h : (addF 0 0 es i T more).2.2.2 = 0) : addF 0 0 (mergeL es i.toNat more) i T more = (0, 0, mergeL es i.toNat more, 0) := by
  obtain ⟨h1, h2, h3, h4, h5, h6, _⟩ := addF_ok h
  have hk : i.toNat ≤ es.length := by omega
  have f := mergeL_facts es more i.toNat hk
  have hr : rising (mergeL es i.toNat more) 0 = true := f.2.2.2.1 0 (mayL_true h1).2.2.2.2.2.2 (by
    rw [termL_at (b := 0) (t := 0) (es := es) i.toNat hk (by omega)] at h5
    simp only at h5
    rw [h5]; exact h2)
  have hm : mayL 0 0 (mergeL es i.toNat more) = true := mayL_mk (by omega) (by omega) (by omega) (by omega) (fun _ => rfl) h6 hr
  have ht : (termL 0 0 (mergeL es i.toNat more) i).1 = T := by
    rw [termL_at (b := 0) (t := 0) (es := mergeL es i.toNat more) i.toNat (by have := f.1; omega) (by omega), f.2.1]
    rw [termL_at (b := 0) (t := 0) (es := es) i.toNat hk (by omega)] at h5
    exact h5
  unfold addF
  rw [if_pos ⟨hm, h2⟩, if_neg (by omega), if_neg (by have := f.1; omega), if_pos ht, Int.sub_zero, mergeL_again more hk, if_neg (by omega)]
/-- What became of one who follows and was told to add. -/
structure Told (m0 m : Mb) (l : List Ms) (x : Ms) : Prop where
  one : l = [] ∨ ∃ y, l = [y]
  no : (∀ y, l = [y] → y.yes = false) → m.settled = 0
  yes : ∀ y, l = [y] → y.yes = true → y.index = x.index + x.ents.length ∧ y.index ≤ m.log.length ∧ m.settled = max 0 (min x.commit (x.index + x.ents.length)) ∧ ∃ y2, m.hear x = (m, [y2]) ∧ y2.yes = true ∧ y2.index = y.index
theorem told {m0 : Mb} (hok : MbOk m0) (hr : m0.role = 0) (hs : m0.settled = 0) (x : Ms) (hk : x.kind = 2) : Told m0 (m0.hear x).1 (m0.hear x).2 x := by
  cases hh : m0.hears x with
  | false =>
    have e : m0.hear x = (m0, []) := if_neg (by rw [hh]; decide)
    rw [e]
    exact ⟨.inl rfl, fun _ => hs, fun y h => by cases h⟩
  | true =>
    have hhe := hh
    unfold Mb.hears at hhe
    rw [decide_eq_true_eq] at hhe
    have e : m0.hear x = (m0.seen x).add x := by
      unfold Mb.hear
      rw [if_pos hh]
      unfold Mb.acts
      rw [if_neg (by omega), if_neg (by omega), if_pos hk]
    have hsr : (m0.seen x).role = 0 := by unfold Mb.seen; split <;> simp [hr]
    have hss : (m0.seen x).settled = 0 := by unfold Mb.seen; split <;> simp [hs]
    have hst : x.term ≤ (m0.seen x).term := by unfold Mb.seen; split <;> first | exact Int.le_refl _ | omega
    have hsi : (m0.seen x).id = m0.id := by unfold Mb.seen; split <;> rfl
    have hsp : (m0.seen x).prog = m0.prog := by unfold Mb.seen; split <;> rfl
    have hsok := hok.seen x hhe.2.2.2.2.2.1
    rw [e]
    generalize hms : m0.seen x = ms at *
    by_cases h1 : x.term < ms.term
    · have e2 : ms.add x = (ms, [ms.say 3 x.frm]) := if_pos h1
      rw [e2]
      exact ⟨.inr ⟨_, rfl⟩, fun _ => hss, fun y h hy => by injection h with h; subst h; cases hy⟩
    have hr2 : ¬ ms.role = 2 := by omega
    by_cases h2 : (addF 0 0 ms.log x.index x.lterm x.ents).2.2.2 ≠ 0 ∨ Mb.oddF x = true
    · have e2 : ms.add x = (ms.follow, [{ ms.say 3 x.frm with index := (lastF 0 0 ms.log).1 }]) := by
        unfold Mb.add
        rw [if_neg h1, if_neg hr2, if_pos h2]
      rw [e2]
      exact ⟨.inr ⟨_, rfl⟩, fun _ => hss, fun y h hy => by injection h with h; subst h; cases hy⟩
    · have e2 : ms.add x = (ms.added' (addF 0 0 ms.log x.index x.lterm x.ents).2.2.1 x, [{ ms.say 3 x.frm with yes := true, index := x.index + x.ents.length }]) := by
        unfold Mb.add
        rw [if_neg h1, if_neg hr2, if_neg h2]
      have hz : (addF 0 0 ms.log x.index x.lterm x.ents).2.2.2 = 0 := by
        by_cases q : (addF 0 0 ms.log x.index x.lterm x.ents).2.2.2 = 0
        · exact q
        · exact (h2 (.inl q)).elim
      have hodd : Mb.oddF x = false := by
        cases q : Mb.oddF x with
        | false => rfl
        | true => exact (h2 (.inr q)).elim
      obtain ⟨a1, a2, a3, a4, a5, a6, a7⟩ := addF_ok hz
      have hag := addF_again hz
      have f := mergeL_facts ms.log x.ents x.index.toNat (by omega)
      rw [a7] at e2
      simp only at e2
      rw [e2]
      generalize mergeL ms.log x.index.toNat x.ents = L at *
      have hset : (ms.added' L x).settled = max 0 (min x.commit (x.index + x.ents.length)) := by
        show max ms.settled _ = _
        rw [hss]
      refine ⟨.inr ⟨_, rfl⟩, fun h => ?_, fun y h hy => ?_⟩
      · have := h _ rfl
        simp only at this
        cases this
      · injection h with h
        subst h
        refine ⟨rfl, by show x.index + x.ents.length ≤ (L.length : Int); have := f.1; omega, hset, ⟨{ (ms.added' L x).say 3 x.frm with yes := true, index := x.index + x.ents.length }, ?_, rfl, rfl⟩⟩
        · have hh2 : (ms.added' L x).hears x = true := by
            unfold Mb.hears
            rw [decide_eq_true_eq]
            show x.dst = ms.id ∧ 1 ≤ x.frm ∧ x.frm ≤ ms.prog.length ∧ x.frm ≠ ms.id ∧ _
            rw [hsi, hsp]
            exact hhe
          have hse2 : (ms.added' L x).seen x = ms.added' L x := if_neg (by show ¬ ms.term < x.term; omega)
          unfold Mb.hear
          rw [if_pos hh2, hse2]
          unfold Mb.acts
          rw [if_neg (by omega), if_neg (by omega), if_pos hk]
          unfold Mb.add
          rw [if_neg (by show ¬ x.term < ms.term; exact h1), if_neg (by show ¬ (0 : Int) = 2; decide), if_neg (by
            show ¬ ((addF 0 0 L x.index x.lterm x.ents).2.2.2 ≠ 0 ∨ Mb.oddF x = true)
            rw [hag, hodd]
            simp)]
          show ((ms.added' L x).added' (addF 0 0 L x.index x.lterm x.ents).2.2.1 x, _) = _
          rw [hag]
          have : (ms.added' L x).added' L x = ms.added' L x := by
            unfold Mb.added'
            simp only [Mb.mk.injEq, true_and, and_true]
            omega
          simp only [this]
/-- One message's block. -/
theorem MsAt.blk1 {w : World} {base : Nat} {A : Option Addr} {c : Nat} {y : Ms} {sl : List (Option Addr × Nat)} (h : MsAt w base A c [y] sl) : ∃ F cur, A = some ⟨F, 0, none⟩ ∧ base ≤ F ∧ w.heap[F]? = some (.cells cur 37) ∧
    cur[4]? = some (.int .i64 y.index) ∧ cur[7]? = some (.bool y.yes) := by
  rcases h.own.2 with ⟨_, h0⟩ | ⟨g, cap, cur, hv, hg, hh, _, _, _, ht⟩
  · simp at h0
  · injection hv with h1
    refine ⟨g, cur, h1, hg, hh, ?_, ?_⟩
    · have : (cur.toList.take (1 * 9))[4]? = some (.int .i64 y.index) := by
        have e := msV_at (ms := [y]) (sl := sl) (k := 0) (j := 4) (by simp) (by omega)
        simp only [List.length_cons, List.length_nil] at ht
        rw [ht]; exact e
      rw [List.getElem?_take_of_lt (by omega)] at this
      simpa using this
    · have : (cur.toList.take (1 * 9))[7]? = some (.bool y.yes) := by
        have e := msV_at (ms := [y]) (sl := sl) (k := 0) (j := 7) (by simp) (by omega)
        simp only [List.length_cons, List.length_nil] at ht
        rw [ht]; exact e
      rw [List.getElem?_take_of_lt (by omega)] at this
      simpa using this
theorem cellAt {w : World} {F : Nat} {cur : Array Value} {t : TypeId} {j : Nat} {v : Value} (h : w.heap[F]? = some (.cells cur t)) (hj : cur[j]? = some v) : w.cell? ⟨F, j, none⟩ = some v := by
  rw [← hj]
  exact blk_cell h j
theorem settled_quiet {w : World} {b : Nat} {a : MA} {m : Mb} (h : MAt w b a m) : Calls Try.prog 15 #[.pointer (some ⟨b, 0, none⟩)] w fun e w' => e = .returned (.int .i64 m.settled) ∧ w' = w := by
  obtain ⟨c0, c1, c2, c3, c4, c5, c6, c7, c8, c9, hlt⟩ := box10 h.blk
  go_enter Try.func15, Try.ntmps15
  go_wp2
  go_ret
  exact ⟨rfl, rfl⟩
theorem role_quiet {w : World} {b : Nat} {a : MA} {m : Mb} (h : MAt w b a m) : Calls Try.prog 12 #[.pointer (some ⟨b, 0, none⟩)] w fun e w' => e = .returned (.int .i64 m.role) ∧ w' = w := by
  obtain ⟨c0, c1, c2, c3, c4, c5, c6, c7, c8, c9, hlt⟩ := box10 h.blk
  go_enter Try.func12, Try.ntmps12
  go_wp2
  go_ret
  exact ⟨rfl, rfl⟩
set_option maxRecDepth 100000 in
set_option maxHeartbeats 6400000 in
theorem raftFollows_walk (id many t v b bt : Int) (la : Option Addr) (lc : Nat) (es : List En) (xk xf xd xt xi xl xc : Int) (xy : Bool) (xe : List En) (am : Option Addr) (cm : Nat) (w : World) (hl : LogIn w la lc es) (hm : LogIn w am cm xe) (hk : (Lit.int .i64 xk).wf = true) (hwi : (Lit.int .i64 xi).wf = true) :
    Calls Try.prog 6 #[.int .i64 id, .int .i64 many, ballotV t v, logV b bt la es.length lc, .agg #[.int .i64 xk, .int .i64 xf, .int .i64 xd, .int .i64 xt, .int .i64 xi, .int .i64 xl, .int .i64 xc, .bool xy, .slice am xe.length cm]] w fun e w' => e = .returned (.bool true) ∧ Below w.heap.size w w' := by
  obtain ⟨⟨g0, g1, g2⟩, hz, hw0⟩ := alloc3 w (.cells #[.int .i64 t, .int .i64 v] 23) (.cells #[.int .i64 b, .int .i64 bt, .slice la es.length lc] 26) (.cells #[.int .i64 xk, .int .i64 xf, .int .i64 xd, .int .i64 xt, .int .i64 xi, .int .i64 xl, .int .i64 xc, .bool xy, .slice am xe.length cm] 37)
  clear hz
  have quit : (100 < (es.length : Int) ∨ (20 < (xe.length : Int) ∨ xk ≠ 2)) → Calls Try.prog 6 #[.int .i64 id, .int .i64 many, ballotV t v, logV b bt la es.length lc, .agg #[.int .i64 xk, .int .i64 xf, .int .i64 xd, .int .i64 xt, .int .i64 xi, .int .i64 xl, .int .i64 xc, .bool xy, .slice am xe.length cm]] w fun e w' => e = .returned (.bool true) ∧ Below w.heap.size w w' := by
    intro hq
    have e1 : ∃ q, decide (100 < (es.length : Int)) = q := ⟨_, rfl⟩
    have e2 : ∃ q, decide (20 < (xe.length : Int)) = q := ⟨_, rfl⟩
    have e3 : ∃ q, (xk != 2) = q := ⟨_, rfl⟩
    obtain ⟨q1, e1⟩ := e1
    obtain ⟨q2, e2⟩ := e2
    obtain ⟨q3, e3⟩ := e3
    have hq' : q1 = false → q2 = false → q3 = false → False := fun h1 h2 h3 => by
      subst h1; subst h2; subst h3
      simp at e1 e2 e3
      omega
    clear hq hl hm hk hwi
    cases q1 <;> cases q2 <;> cases q3
    · exact (hq' rfl rfl rfl).elim
    all_goals go_enter Try.func6, Try.ntmps6
    all_goals (go_wp2_with (go_at_call 8; refine (raftAwake_any _).mono ?_; rintro e w1 ⟨rfl, hb1⟩; replace hw0 := hw0.trans (hb1.mono hw0.size); replace g1 := blk_keep hb1 g1; replace g2 := blk_keep hb1 g2; obtain ⟨lc0, lc1, lc2, lf0, lf1, lf2, llt⟩ := box3 g1; obtain ⟨xc0, xc1, xc2, xc3, xc4, xc5, xc6, xc7, xc8⟩ := box9 g2; have xlt := blk_lt g2))
    all_goals go_ret
    all_goals exact ⟨rfl, hw0⟩
  by_cases h100 : 100 < (es.length : Int)
  · exact quit (.inl h100)
  by_cases h20 : 20 < (xe.length : Int)
  · exact quit (.inr (.inl h20))
  by_cases hk2 : xk = 2
  rotate_left
  · exact quit (.inr (.inr hk2))
  clear quit
  subst hk2
  have d100 : decide (100 < (es.length : Int)) = false := decide_eq_false h100
  have d20 : decide (20 < (xe.length : Int)) = false := decide_eq_false h20
  have hx20 : xe.length ≤ 20 := by omega
  have hwi' : -9223372036854775808 ≤ xi ∧ xi ≤ 9223372036854775807 := by have h := hwi; simp only [Lit.wf, Bool.and_eq_true, decide_eq_true_eq] at h; exact h
  cases hok : newOk id many t v b bt es with
  | false =>
    have HN : Hid (∀ W, Below w.heap.size w W → Calls Try.prog 9 #[.int .i64 id, .int .i64 many, ballotV t v, logV b bt la es.length lc] W (RetNo W)) := fun W h => new_no id many t v b bt la lc es W (hl.below h) hok
    clear hok hl hm hk hwi h100 h20
    go_enter Try.func6, Try.ntmps6
    go_wp2_with (first
      | (go_at_call 8; refine (raftAwake_any _).mono ?_; rintro e w1 ⟨rfl, hb1⟩; replace hw0 := hw0.trans (hb1.mono hw0.size); replace g0 := blk_keep hb1 g0; replace g1 := blk_keep hb1 g1; replace g2 := blk_keep hb1 g2; obtain ⟨bc0, bc1, bf0, bf1, blt⟩ := box2 g0; obtain ⟨lc0, lc1, lc2, lf0, lf1, lf2, llt⟩ := box3 g1; obtain ⟨xc0, xc1, xc2, xc3, xc4, xc5, xc6, xc7, xc8⟩ := box9 g2; have xlt := blk_lt g2)
      | (go_at_call 9; refine (HN.out _ hw0).mono ?_; rintro e w2 ⟨rfl, hb2⟩; replace hw0 := hw0.trans (hb2.mono hw0.size)))
    go_ret
    exact ⟨rfl, hw0⟩
  | true =>
    obtain ⟨n, rfl⟩ : ∃ n : Nat, many = (n : Int) := ⟨many.toNat, by unfold newOk at hok; rw [decide_eq_true_eq] at hok; omega⟩
    obtain ⟨hbt, hmok0⟩ := newMb_ok hok
    subst hbt
    have hb0 : b = 0 := by unfold newOk at hok; rw [decide_eq_true_eq] at hok; exact hok.2.2.2.2.2.2.1
    subst hb0
    have HN : Hid (∀ W, Below w.heap.size w W → Calls Try.prog 9 #[.int .i64 id, .int .i64 (n : Int), ballotV t v, logV 0 0 la es.length lc] W (RetNew (newMb id n t v es) W)) := fun W h => new_yes id t v n la lc es W (hl.below h) hok
    have HT := told hmok0 rfl rfl ⟨2, xf, xd, xt, xi, xl, xc, xy, xe⟩ rfl
    generalize newMb id n t v es = m0 at *
    have HH : Hid (∀ W B a m, MbOk m → MAt W B a m → (∀ y ∈ foot B a, w.heap.size ≤ y) → Below w.heap.size w W → Calls Try.prog 17 #[.pointer (some ⟨B, 0, none⟩), .agg #[.int .i64 2, .int .i64 xf, .int .i64 xd, .int .i64 xt, .int .i64 xi, .int .i64 xl, .int .i64 xc, .bool xy, .slice am xe.length cm]] W (RetR (m.hear ⟨2, xf, xd, xt, xi, xl, xc, xy, xe⟩).1 (m.hear ⟨2, xf, xd, xt, xi, xl, xc, xy, xe⟩).2 B a W)) := fun W B a m ok h hf hW => hear_any h ok ⟨2, xf, xd, xt, xi, xl, xc, xy, xe⟩ am cm hk hwi fun _ => ⟨hm.below hW, by show xe.length ≤ 1000000; omega, fun h0 y hy hc => by
      rcases hm.row with h1 | ⟨b1, off, ha, hlt, _⟩
      · have := congrArg List.length h1
        rw [ensV_length] at this
        simp at this
        exact h0 (by show xe.length = 0; omega)
      · subst ha
        simp only [blkOf, List.mem_singleton] at hy
        subst hy
        have := hf _ hc
        omega⟩
    have hmok := Lib.hid hmok0
    have hmok1 := Lib.hid (hmok0.hear ⟨2, xf, xd, xt, xi, xl, xc, xy, xe⟩)
    obtain ⟨m1, L, hL⟩ : ∃ m1 L, Hid (m0.hear ⟨2, xf, xd, xt, xi, xl, xc, xy, xe⟩ = (m1, L)) := ⟨_, _, rfl⟩
    have hL0 := hL.out
    rw [hL0] at HT
    have hm1 : Hid (MbOk m1) := by have := hmok1.out; rw [hL0] at this; exact this
    clear hL0 hmok1 hmok0 hok hl hm hk hwi h100 h20
    obtain ⟨one, no, yes⟩ := HT
    simp only at one no yes
    rcases one with rfl | ⟨y, rfl⟩
    · have hs0 : Hid (m1.settled = 0) := no fun y h => by cases h
      clear no yes
      go_enter Try.func6, Try.ntmps6
      go_wp2_with (first
        | (go_at_call 8; refine (raftAwake_any _).mono ?_; rintro e w1 ⟨rfl, hb1⟩; replace hw0 := hw0.trans (hb1.mono hw0.size); replace g0 := blk_keep hb1 g0; replace g1 := blk_keep hb1 g1; replace g2 := blk_keep hb1 g2; obtain ⟨bc0, bc1, bf0, bf1, blt⟩ := box2 g0; obtain ⟨lc0, lc1, lc2, lf0, lf1, lf2, llt⟩ := box3 g1; obtain ⟨xc0, xc1, xc2, xc3, xc4, xc5, xc6, xc7, xc8⟩ := box9 g2; have xlt := blk_lt g2)
        | (go_at_call 9; refine (HN.out _ hw0).mono ?_; rintro e w2 ⟨B, a, rfl, H2, hF2, hb2⟩; have hws := hw0.size; have hne0 : w.heap.size ∉ foot B a := (fun hc => by have := hF2 _ hc; have := blk_lt g0; omega); have hne1 : w.heap.size + 1 ∉ foot B a := (fun hc => by have := hF2 _ hc; have := blk_lt g1; omega); have hne2 : w.heap.size + 1 + 1 ∉ foot B a := (fun hc => by have := hF2 _ hc; have := blk_lt g2; omega); replace hw0 := hw0.trans (hb2.mono hw0.size); replace g2 := blk_keep hb2 g2; clear xc0 xc1 xc2 xc3 xc4 xc5 xc6 xc7 xc8; obtain ⟨xc0, xc1, xc2, xc3, xc4, xc5, xc6, xc7, xc8⟩ := box9 g2; have hff : ∀ y ∈ foot B a, w.heap.size ≤ y := fun y hy => Nat.le_trans hws (hF2 y hy); have HH1 := Lib.hid (HH.out _ _ _ _ hmok.out H2 hff hw0))
        | (go_at_call 17; refine HH1.out.mono ?_; rw [hL.out]; rintro e w3 ⟨a3, B3, A3, c3, sl3, rfl, H3, S3, hB3, hf3, hms3⟩; have hb3 : Below w.heap.size w w3 := hw0.trans (S3.chg.to_below hff hw0.size); have G2 := S3.keep g2 hne2; have hff3 : ∀ y ∈ foot B a3, w.heap.size ≤ y := fun y hy => (S3.sub y hy).elim (hff y) (fun q => Nat.le_trans hw0.size q); have hne3 := S3.out (blk_lt g2) hne2; clear xc0 xc1 xc2 xc3 xc4 xc5 xc6 xc7 xc8 xlt bc0 bc1 bf0 bf1 blt lc0 lc1 lc2 lf0 lf1 lf2 llt; obtain ⟨xc0, xc1, xc2, xc3, xc4, xc5, xc6, xc7, xc8⟩ := box9 G2; have xlt := blk_lt G2; have HSE := Lib.hid (settled_any H3) )
        | (go_at_call 15; refine HSE.out.mono ?_; rw [hs0.out]; rintro e w4 ⟨rfl, hb4⟩; have hb4' := hb3.trans (hb4.mono hb3.size)))
      go_ret
      exact ⟨rfl, hb4'⟩
    · cases hy : y.yes with
      | false =>
        have hs0 : Hid (m1.settled = 0) := no fun y' h => by injection h with h; subst h; exact hy
        clear no yes
        go_enter Try.func6, Try.ntmps6
        go_wp2_with (first
          | (go_at_call 8; refine (raftAwake_any _).mono ?_; rintro e w1 ⟨rfl, hb1⟩; replace hw0 := hw0.trans (hb1.mono hw0.size); replace g0 := blk_keep hb1 g0; replace g1 := blk_keep hb1 g1; replace g2 := blk_keep hb1 g2; obtain ⟨bc0, bc1, bf0, bf1, blt⟩ := box2 g0; obtain ⟨lc0, lc1, lc2, lf0, lf1, lf2, llt⟩ := box3 g1; obtain ⟨xc0, xc1, xc2, xc3, xc4, xc5, xc6, xc7, xc8⟩ := box9 g2; have xlt := blk_lt g2)
          | (go_at_call 9; refine (HN.out _ hw0).mono ?_; rintro e w2 ⟨B, a, rfl, H2, hF2, hb2⟩; have hws := hw0.size; have hne0 : w.heap.size ∉ foot B a := (fun hc => by have := hF2 _ hc; have := blk_lt g0; omega); have hne1 : w.heap.size + 1 ∉ foot B a := (fun hc => by have := hF2 _ hc; have := blk_lt g1; omega); have hne2 : w.heap.size + 1 + 1 ∉ foot B a := (fun hc => by have := hF2 _ hc; have := blk_lt g2; omega); replace hw0 := hw0.trans (hb2.mono hw0.size); replace g2 := blk_keep hb2 g2; clear xc0 xc1 xc2 xc3 xc4 xc5 xc6 xc7 xc8; obtain ⟨xc0, xc1, xc2, xc3, xc4, xc5, xc6, xc7, xc8⟩ := box9 g2; have hff : ∀ y ∈ foot B a, w.heap.size ≤ y := fun y hy => Nat.le_trans hws (hF2 y hy); have HH1 := Lib.hid (HH.out _ _ _ _ hmok.out H2 hff hw0))
          | (go_at_call 17; refine HH1.out.mono ?_; rw [hL.out]; rintro e w3 ⟨a3, B3, A3, c3, sl3, rfl, H3, S3, hB3, hf3, hms3⟩; have hb3 : Below w.heap.size w w3 := hw0.trans (S3.chg.to_below hff hw0.size); have G2 := S3.keep g2 hne2; have hff3 : ∀ y ∈ foot B a3, w.heap.size ≤ y := fun y hy => (S3.sub y hy).elim (hff y) (fun q => Nat.le_trans hw0.size q); have hne3 := S3.out (blk_lt g2) hne2; clear xc0 xc1 xc2 xc3 xc4 xc5 xc6 xc7 xc8 xlt bc0 bc1 bf0 bf1 blt lc0 lc1 lc2 lf0 lf1 lf2 llt; obtain ⟨xc0, xc1, xc2, xc3, xc4, xc5, xc6, xc7, xc8⟩ := box9 G2; have xlt := blk_lt G2; have HSE := Lib.hid (settled_any H3) ; obtain ⟨F3, cur3, rfl, hF3, hh3, hi3, hy3⟩ := hms3.blk1; rw [hy] at hy3; have cy := cellAt hh3 hy3; have flt := blk_lt hh3)
          | (go_at_call 15; refine HSE.out.mono ?_; rw [hs0.out]; rintro e w4 ⟨rfl, hb4⟩; have hb4' := hb3.trans (hb4.mono hb3.size)))
        go_ret
        exact ⟨rfl, hb4'⟩
      | true =>
        obtain ⟨e1, e2, e3, y2, e4, e5, e6⟩ := yes y rfl hy
        clear no yes
        have hlen := hm1.out.len64
        have HH2 : Hid (∀ W B a, MAt W B a m1 → (∀ y ∈ foot B a, w.heap.size ≤ y) → Below w.heap.size w W → Calls Try.prog 17 #[.pointer (some ⟨B, 0, none⟩), .agg #[.int .i64 2, .int .i64 xf, .int .i64 xd, .int .i64 xt, .int .i64 xi, .int .i64 xl, .int .i64 xc, .bool xy, .slice am xe.length cm]] W (RetR m1 [y2] B a W)) := fun W B a h hf hW => by
          have := HH.out W B a m1 hm1.out h hf hW
          rw [e4] at this
          exact this
        have hw1 : wrap64 (xi + (xe.length : Int)) = xi + (xe.length : Int) := by unfold wrap64; omega
        rw [e1] at e6
        obtain ⟨T, hT⟩ : ∃ T, xi + (xe.length : Int) = T := ⟨_, rfl⟩
        have hlog : T ≤ (m1.log.length : Int) := by omega
        have hw2 : IntKind.i64.wrap T = T := by rw [IntKind.wrap_i64]; omega
        rw [hT] at e1 e3 e6 hw1
        have HLOGS : Hid (∀ W A c A' c', LogIn W A c m1.log → LogIn W A' c' m1.log → Calls Try.prog 13 #[logV 0 0 A m1.log.length c, logV 0 0 A' m1.log.length c'] W fun e w' => e = .returned (.bool true) ∧ Below W.heap.size W w') := fun W A c A' c' h h' => by
          have := logs_any 0 0 A c m1.log 0 0 A' c' m1.log W h h'
          simpa using this
        obtain ⟨Wn, hWn⟩ : ∃ Wn, max 0 (min xc T) = Wn := ⟨_, rfl⟩
        rw [hWn] at e3
        go_enter Try.func6, Try.ntmps6
        go_upto_region 10 with (first
          | (go_at_call 8; refine (raftAwake_any _).mono ?_; rintro e w1 ⟨rfl, hb1⟩; replace hw0 := hw0.trans (hb1.mono hw0.size); replace g0 := blk_keep hb1 g0; replace g1 := blk_keep hb1 g1; replace g2 := blk_keep hb1 g2; obtain ⟨bc0, bc1, bf0, bf1, blt⟩ := box2 g0; obtain ⟨lc0, lc1, lc2, lf0, lf1, lf2, llt⟩ := box3 g1; obtain ⟨xc0, xc1, xc2, xc3, xc4, xc5, xc6, xc7, xc8⟩ := box9 g2; have xlt := blk_lt g2)
          | (go_at_call 9; refine (HN.out _ hw0).mono ?_; rintro e w2 ⟨B, a, rfl, H2, hF2, hb2⟩; have hws := hw0.size; have hne0 : w.heap.size ∉ foot B a := (fun hc => by have := hF2 _ hc; have := blk_lt g0; omega); have hne1 : w.heap.size + 1 ∉ foot B a := (fun hc => by have := hF2 _ hc; have := blk_lt g1; omega); have hne2 : w.heap.size + 1 + 1 ∉ foot B a := (fun hc => by have := hF2 _ hc; have := blk_lt g2; omega); replace hw0 := hw0.trans (hb2.mono hw0.size); replace g2 := blk_keep hb2 g2; clear xc0 xc1 xc2 xc3 xc4 xc5 xc6 xc7 xc8; obtain ⟨xc0, xc1, xc2, xc3, xc4, xc5, xc6, xc7, xc8⟩ := box9 g2; have hff : ∀ y ∈ foot B a, w.heap.size ≤ y := fun y hy => Nat.le_trans hws (hF2 y hy); have HH1 := Lib.hid (HH.out _ _ _ _ hmok.out H2 hff hw0))
          | (go_at_call 17; refine HH1.out.mono ?_; rw [hL.out]; rintro e w3 ⟨a3, B3, A3, c3, sl3, rfl, H3, S3, hB3, hf3, hms3⟩; have hb3 : Below w.heap.size w w3 := hw0.trans (S3.chg.to_below hff hw0.size); have G2 := S3.keep g2 hne2; have hff3 : ∀ y ∈ foot B a3, w.heap.size ≤ y := fun y hy => (S3.sub y hy).elim (hff y) (fun q => Nat.le_trans hw0.size q); have hne3 := S3.out (blk_lt g2) hne2; clear xc0 xc1 xc2 xc3 xc4 xc5 xc6 xc7 xc8 xlt bc0 bc1 bf0 bf1 blt lc0 lc1 lc2 lf0 lf1 lf2 llt; obtain ⟨xc0, xc1, xc2, xc3, xc4, xc5, xc6, xc7, xc8⟩ := box9 G2; have xlt := blk_lt G2; have HSE := Lib.hid (settled_any H3) ; obtain ⟨F3, cur3, rfl, hF3, hh3, hi3, hy3⟩ := hms3.blk1; rw [hy] at hy3; rw [e1] at hi3; have cy := cellAt hh3 hy3; have flt := blk_lt hh3; have HLG := Lib.hid (mlog_any H3 hlen)))
        clear cy flt xc0 xc1 xc2 xc3 xc4 xc5 xc6 xc7 xc8 xlt HSE HN HH1
        go_cut [15] (fun c wx => ∃ F4 A4 c4, c = .pointer (some ⟨F4, 0, none⟩) ∧ wx.heap[F4]? = some (.cells #[.int .i64 0, .int .i64 0, .slice A4 m1.log.length c4] 26) ∧ F4 ∉ foot B a3 ∧ wx.ownsRow w3.heap.size 47 7 (.slice A4 m1.log.length c4) m1.log.length (ensV m1.log) ∧ Below w.heap.size w wx ∧ Below w3.heap.size w3 wx)
        case first =>
          go_wp2_with (go_at_call 14; refine HLG.out.mono ?_; rintro e w4 ⟨A4, c4, rfl, own4, hb4⟩)
          go_meet
          exact ⟨_, _, _, rfl, blk_new _ _, (H3.below hb4).new (Nat.le_refl _), own_below own4 (below1 _ _), hb3.trans ((hb4.trans ((below1 _ _).mono hb4.size)).mono hb3.size), hb4.trans ((below1 _ _).mono hb4.size)⟩
        case rest =>
          obtain ⟨F4, A4, c4, rfl, g4, hn4, own4, hb4, hb43⟩ := hcut
          have H4 := H3.below hb43
          have K4 := blk_keep hb43 G2
          have M4 := blk_keep hb43 hh3
          have hn3 : F3 ∉ foot B a3 := fun hc => by have := hf3 _ hc; omega
          have hA4 : ∀ x ∈ blkOf A4, x ∉ foot B a3 := fun x hx hc => by have := (own_blk own4 x hx).1; have := H3.lt x hc; omega
          have HSE4 := Lib.hid (settled_any H4)
          have HH5 := fun (W : World) (h : MAt W B a3 m1) (h2 : Below w.heap.size w W) => HH2.out W _ _ h hff3 h2
          have HH5 := Lib.hid HH5
          go_upto_region 17 with (go_at_call 15; refine HSE4.out.mono ?_; rw [e3]; rintro e w5 ⟨rfl, hb5⟩; have hb5' := hb4.trans (hb5.mono hb4.size); have H5 := H4.below hb5; have K5 := blk_keep hb5 K4; have M5 := blk_keep hb5 M4; have g5 := blk_keep hb5 g4; have own5 := own_below own4 hb5; obtain ⟨xc0, xc1, xc2, xc3, xc4, xc5, xc6, xc7, xc8⟩ := box9 K5; have xlt := blk_lt K5)
          all_goals first | (have q : T = Wn := by omega); subst q | (have q : xc = Wn := by omega); subst q | (have q : 0 = Wn := by omega); subst q
          all_goals (
            go_upto_region 18 with (go_at_call 17; refine (HH5.out _ H5 hb5').mono ?_; rintro e w6 ⟨a6, B6, A6, c6, sl6, rfl, H6, S6, hB6, hf6, hms6⟩; obtain ⟨F6, cur6, rfl, hF6, hh6, hi6, hy6⟩ := hms6.blk1; rw [e6] at hi6; rw [e5] at hy6)
            have K6 := S6.keep K5 hne3
            have M6 := S6.keep M5 hn3
            have J6 := S6.keep g5 hn4
            have L6 := (LogIn.of_own own5).chg S6.chg (fun _ => hA4)
            have hb6 : Below w.heap.size w w6 := hb5'.trans (S6.chg.to_below hff3 hb5'.size)
            have HLO6 := Lib.hid (mlog_any H6.drew hlen)
            clear xc0 xc1 xc2 xc3 xc4 xc5 xc6 xc7 xc8 xlt
            obtain ⟨lc0, lc1, lc2, lf0, lf1, lf2, llt⟩ := box3 J6
            go_cut [19] (fun c wx => c = .bool true ∧ MAt wx B a6 m1 ∧ Below w.heap.size w wx ∧ Below w6.heap.size w6 wx)
            case first =>
              go_region_held3 (fun W => W.cell? ⟨F4, 0, none⟩ = some (.int .i64 0) ∧ W.cell? ⟨F4, 1, none⟩ = some (.int .i64 0) ∧ W.cell? ⟨F4, 2, none⟩ = some (.slice A4 m1.log.length c4)) (first | with_reducible exact ⟨lc0, lc1, lc2⟩ | with_reducible exact ⟨kc0, kc1, kc2⟩ | with_reducible exact ⟨jc0, jc1, jc2⟩ | go_keep) (first
                | (go_at_call 14; refine HLO6.out.mono ?_; rintro e w7 ⟨A7, c7, rfl, own7, hb7⟩; have hb7' : Below w.heap.size w w7 := hb6.drew.trans (hb7.mono hb6.size); have hb7w : Below w6.heap.size w6 w7 := (Below.refl _ _).drew.trans hb7; have K7 := blk_keep hb7 (blk_drawn J6); obtain ⟨kc0, kc1, kc2, kf0, kf1, kf2, klt⟩ := box3 K7; have H7 := H6.drew.below hb7)
                | (go_at_call 13; refine (HLOGS.out _ _ _ _ _ (LogIn.of_own own7) (L6.below hb7w)).mono ?_; rintro e w8 ⟨rfl, hb8⟩; have hb8' := hb7'.trans (hb8.mono hb7'.size); have hb8w := hb7w.trans (hb8.mono hb7w.size); have J8 := blk_keep hb8 K7; obtain ⟨jc0, jc1, jc2, jf0, jf1, jf2, jlt⟩ := box3 J8; have H8 := H7.below hb8))
              all_goals (go_wp2_with fail; go_meet)
              all_goals exact ⟨rfl, H8, hb8', hb8w⟩
            case rest =>
              obtain ⟨rfl, H9, hb9, hb96⟩ := hcut
              clear lc0 lc1 lc2 lf0 lf1 lf2 llt
              have M9 := blk_keep hb96 M6
              have N9 := blk_keep hb96 hh6
              have K9 := blk_keep hb96 K6
              have J9 := blk_keep hb96 J6
              have y4 := cellAt M9 hi3
              have z4 := cellAt N9 hi6
              have z7 := cellAt N9 hy6
              obtain ⟨xc0, xc1, xc2, xc3, xc4, xc5, xc6, xc7, xc8⟩ := box9 K9
              obtain ⟨lc0, lc1, lc2, lf0, lf1, lf2, llt⟩ := box3 J9
              have hl1 := blk_lt M9
              have hl2 := blk_lt N9
              have hl3 := blk_lt K9
              have HSQ := Lib.hid (fun n => (settled_quiet (H9.many n)))
              rw [e3] at HSQ
              have hlogd : decide (T ≤ (m1.log.length : Int)) = true := decide_eq_true hlog
              clear HH HH2 HH5 HLOGS HLO6 L6 S3 S6 H3 H4 H5 H6 hms3 hms6 hff hff3 hF2 own4 own5 hA4 hn3 hn4 hne3 hne0 hne1 hne2 hf3 hf6 hL hmok hm1 g0 g1 g2 g4 g5 K4 K5 M4 M5 G2 J6 K6 M6 hh3 hh6 hb4 hb43 hb5 hb5' hb6 hb3 hb2 hb1 hw0
              try clear g0
              go_wp2
              go_quiet ((go_at_call 15; exact Calls.quiet_of_same (HSQ.out _)))
              go_wp2
              go_ret
              exact ⟨rfl, Below.many hb9 _⟩)
end Go.Proofs.Ytlejbhgginolgaa
