/-
  The law of leaders.
-/
import Derived.Test.YtnljdkglncmfaaaGreatGrT
namespace Go.Proofs.YtnljdkglncmfaaaGreat
open Go.RowKit
set_option linter.unusedVariables false
set_option maxRecDepth 100000 in
set_option maxHeartbeats 6400000 in
theorem groupLeaders_walk (many : Int) (ia : Option Addr) (ic : Nat) (its : List It) (w : World) (hits : ItemsIn w ia ic its) :
    Calls Tryz.prog 3 #[.int .i64 many, .slice ia its.length ic] w fun e w' => e = .returned (.bool true) ∧ Below w.heap.size w w' := by
  by_cases hmany : many < 1 ∨ 16 < many
  · have HN : Hid (∀ W, Calls Tryz.prog 11 #[.int .i64 many] W fun e w' => e = .returned (.tuple #[.pointer none, .int .i64 1]) ∧ w' = W) := fun W => gnew_no many W hmany
    clear hits hmany
    by_cases q120 : 120 < (its.length : Int)
    all_goals (
      go_enter Tryz.func3, Tryz.ntmps3
      go_wp2_with (first
        | (go_at_call 10; refine (groupAwake_any _).mono ?_; rintro e w1 ⟨rfl, hb1⟩)
        | (go_at_call 11; refine (HN.out _).mono ?_; rintro e wx ⟨rfl, hwx⟩; subst hwx))
      go_ret
      exact ⟨rfl, hb1⟩)
  obtain ⟨n, rfl⟩ : ∃ n : Nat, many = (n : Int) := ⟨many.toNat, by omega⟩
  have hn1 : 1 ≤ n := by omega
  have hn16 : n ≤ 16 := by omega
  have HN : Hid (∀ W, Calls Tryz.prog 11 #[.int .i64 (n : Int)] W (RetGr n W)) := fun W => gnew_any n W hn1 hn16
  by_cases q1 : 120 < (its.length : Int)
  · clear hits hmany
    go_enter Tryz.func3, Tryz.ntmps3
    go_wp2_with (first
      | (go_at_call 10; refine (groupAwake_any _).mono ?_; rintro e w1 ⟨rfl, hb1⟩)
      | (go_at_call 11; refine (HN.out _).mono ?_; rintro e w2 ⟨G, L, rfl, h2, hf2, hb2⟩; have hw2 := hb1.trans (hb2.mono hb1.size)))
    go_ret
    exact ⟨rfl, hw2⟩
  have HI := Lib.hid hits
  have hr0 : Hid (Sure n 0 (newGr n) gh0 ∧ Led gh0 [] [] ∧ ([] : List Int).length ≤ 16 * 0) := Lib.hid ⟨Sure.new hn1 hn16, ⟨rfl, fun m t u h => by cases h⟩, by simp⟩
  clear hits hmany
  go_enter Tryz.func3, Tryz.ntmps3
  go_wp2_with (first
    | (go_at_call 10; refine (groupAwake_any _).mono ?_; rintro e w1 ⟨rfl, hb1⟩)
    | (go_at_call 11; refine (HN.out _).mono ?_; rintro e w2 ⟨G, L, rfl, h2, hf2, hb2⟩; have hw2 := hb1.trans (hb2.mono hb1.size); have hfw : ∀ x ∈ gall G L, w.heap.size ≤ x := (fun x hx => Nat.le_trans hb1.size (hf2 x hx))))
  go_loopw [8, 9, 10] (fun vt vu j wr => ∃ (k : Nat) (L' : GL) (g : Gr) (h : Gh) (ts us : List Int) (a : Option Addr) (c : Nat) (a' : Option Addr) (c' : Nat), k ≤ its.length ∧ vt = .slice a ts.length c ∧ vu = .slice a' us.length c' ∧ j = .int .i64 (k : Int) ∧ Hid (Sure n k g h ∧ Led h ts us ∧ ts.length ≤ 16 * k) ∧ Hid (Recs w.heap.size wr G L' g ts us a c a' c') ∧ Below w.heap.size w wr) (fun _ _ j _ => its.length - (intOf j).toNat)
  case atStart => exact ⟨0, L, newGr n, gh0, [], [], none, 0, none, 0, by omega, rfl, rfl, rfl, hr0, Lib.hid ⟨h2, hfw, World.ownsRow_nil _ _ _ _, World.ownsRow_nil _ _ _ _, (fun x hx => by cases hx), (fun x _ hx => by cases hx), (fun x _ hx => by cases hx)⟩, hw2⟩
  case round =>
    clear h2 hf2 hw2 hfw hb1 hb2 hr0
    obtain ⟨k, L4, g, h, ts, us, a, c, a', c', hk, rfl, rfl, rfl, HR, H4, hw4⟩ := hrel
    have hk0 : (0 : Int) ≤ (k : Int) := by omega
    by_cases hlt : k < its.length
    rotate_left 1
    · have hk1 : ¬ (k : Int) < (its.length : Int) := by omega
      go_wp2
      go_ret
      exact ⟨rfl, hw4⟩
    have hk1 : (k : Int) < (its.length : Int) := by omega
    obtain ⟨nb, noff, rfl, nlt, n0, n1, n2, n3⟩ := item_cells (HI.out.below hw4) hlt
    obtain ⟨h5, he5, hs5⟩ := HR.out.1.next (its[k]'hlt)
    have HN5 : Hid (Sure n (k + 1) (g.item (its[k]'hlt)) h5 ∧ Led h5 ts us ∧ ts.length ≤ 16 * k) := Lib.hid ⟨hs5, HR.out.2.1.ext he5, HR.out.2.2⟩
    have HDO : Hid (Calls Tryz.prog 12 #[.pointer (some ⟨G, 0, none⟩), itV (its[k]'hlt).1 (its[k]'hlt).2.1 (its[k]'hlt).2.2.1 (its[k]'hlt).2.2.2] wr (RetE (g.does (its[k]'hlt).1 (its[k]'hlt).2.1 (its[k]'hlt).2.2.1 (its[k]'hlt).2.2.2) G L4 wr)) := do_any HR.out.1.ran.ok H4.out.g _ _ _ _ (by have := HR.out.1.ran.net; omega)
    clear hs5 he5 HR
    generalize (its[k]'hlt) = it at *
    obtain ⟨t0, t1, t2, t3⟩ := it
    simp only at n0 n1 n2 n3 HDO
    have hg5 : g.item (t0, t1, t2, t3) = (g.does t0 t1 t2 t3).1 := rfl
    rw [hg5] at HN5
    generalize g.does t0 t1 t2 t3 = r5 at *
    obtain ⟨g5, e5⟩ := r5
    clear hg5
    go_wp2_with (go_at_call 12; refine HDO.out.mono ?_; rintro e w5 ⟨rfl, L5, g5at, S5⟩; have H5 := Lib.hid (H4.out.step hw4.size g5at S5); have hw5 : Below w.heap.size w w5 := hw4.trans (S5.chg.to_below H4.out.gb hw4.size))
    clear HDO n0 n1 n2 n3 nlt S5 g5at H4 hw4
    go_loopw [8, 9, 11] (fun vt vu j wr => ∃ (m : Nat) (ts us : List Int) (a : Option Addr) (c : Nat) (a' : Option Addr) (c' : Nat), m ≤ n ∧ vt = .slice a ts.length c ∧ vu = .slice a' us.length c' ∧ j = .int .i64 ((m : Int) + 1) ∧ Hid (Sure n (k + 1) g5 h5 ∧ Led h5 ts us ∧ ts.length ≤ 16 * k + m) ∧ Hid (Recs w.heap.size wr G L5 g5 ts us a c a' c') ∧ Below w.heap.size w wr) (fun _ _ j _ => (n + 1 : Nat) - (intOf j).toNat)
    case atStart => exact ⟨0, ts, us, a, c, a', c', by omega, rfl, rfl, rfl, HN5, H5, hw5⟩
    case round =>
      clear H5 hw5 HN5
      obtain ⟨m, ts, us, a, c, a', c', hm, rfl, rfl, rfl, HR, H6, hw6⟩ := hrel
      by_cases hmn : m < n
      rotate_left 1
      · have hm1 : ¬ (m : Int) + 1 ≤ (n : Int) := by omega
        go_wp2
        go_roundw
        case rel => exact ⟨k + 1, L5, g5, h5, ts, us, a, c, a', c', by omega, rfl, rfl, by go_num, Lib.hid ⟨HR.out.1, HR.out.2.1, by have := HR.out.2.2; omega⟩, H6, hw6⟩
        case measure => simp [intOf]; omega
      have hm1 : (m : Int) + 1 ≤ (n : Int) := by omega
      obtain ⟨p, hp⟩ : ∃ p, g5.ms[m]? = some p := ⟨_, List.getElem?_eq_getElem (by rw [HR.out.1.ran.many]; exact hmn)⟩
      have hgn : g5.ms.length ≤ 16 := HR.out.1.ran.ok.n16
      have HRO := Lib.hid (grole_any H6.out.g hgn hp)
      have HBA : Hid (∀ W, GAt W G L5 g5 → Calls Tryz.prog 14 #[.pointer (some ⟨G, 0, none⟩), .int .i64 ((m : Int) + 1)] W fun e w' => e = .returned (ballotV p.1.term p.1.vote) ∧ Below W.heap.size W w') := fun W h => gballot_any h hgn hp
      by_cases hr2 : p.1.role = 2
      rotate_left 1
      · have hr2' : (p.1.role == 2) = false := by simpa using hr2
        have hr2'' : decide (p.1.role = 2) = false := decide_eq_false hr2
        go_wp2_with (go_at_call 13; refine HRO.out.mono ?_; rintro e w7 ⟨rfl, hb7⟩; have H7 := Lib.hid (H6.out.below hb7); have hw7 := hw6.trans (hb7.mono hw6.size))
        go_roundw
        case rel => exact ⟨m + 1, ts, us, a, c, a', c', by omega, rfl, rfl, by go_num, Lib.hid ⟨HR.out.1, HR.out.2.1, by have := HR.out.2.2; omega⟩, H7, hw7⟩
        case measure => simp [intOf]; omega
      have HLE : Hid (h5.ld p.1.term = (m : Int) + 1) := by
        have := HR.out.1.inv.leader HR.out.1.ran.ok (i := (m : Int) + 1) (by omega) (by have := HR.out.1.ran.many; omega) (by rw [at_some hp]; exact hr2)
        rwa [at_some hp] at this
      rw [hr2] at HRO
      clear hr2
      have hfb : ∀ (t v : Int) (W : World), (Instr.field 34 (ballotV t v) 0).run Tryz.prog W = .ok (.int .i64 t) W := fun t v W => by kernel_rfl
      go_wp2_with (first
        | (go_at_call 13; refine HRO.out.mono ?_; rintro e w7 ⟨rfl, hb7⟩; have H7 := Lib.hid (H6.out.below hb7); have hw7 := hw6.trans (hb7.mono hw6.size); have HB7 := Lib.hid (HBA.out _ H7.out.g))
        | (go_at_call 14; refine HB7.out.mono ?_; rintro e w8 ⟨rfl, hb8⟩; have H8 := Lib.hid (H7.out.below hb8); have hw8 := hw7.trans (hb8.mono hw7.size)))
      clear H6 H7 HB7 HBA HRO hw6 hw7 hb7 hb8
      go_loopw [13, 14] (fun kn j wr => ∃ (q : Nat) (b : Bool), q ≤ ts.length ∧ kn = .bool b ∧ j = .int .i64 (q : Int) ∧ wr = w8) (fun _ j _ => ts.length - (intOf j).toNat)
      case atStart => exact ⟨0, false, by omega, rfl, rfl, rfl⟩
      case round =>
        obtain ⟨q, b, hq, rfl, rfl, rfl⟩ := hrel
        have hq0 : (0 : Int) ≤ (q : Int) := by omega
        have htl : ts.length ≤ 16 * k + m := HR.out.2.2
        have HUL : Hid (us.length = ts.length) := HR.out.2.1.len
        by_cases hqt : q < ts.length
        · have hq1 : (q : Int) < (ts.length : Int) := by omega
          have hql : us.length = ts.length := HR.out.2.1.len
          have hq2 : (q : Int) < (us.length : Int) := by omega
          obtain ⟨tb, toff, rfl, tlt, tc⟩ := H8.out.readT hqt
          obtain ⟨ub, uoff, rfl, ult, uc⟩ := H8.out.readU (k := q) (by omega)
          have hsame := HR.out.2.1.led q _ _ (List.getElem?_eq_getElem hqt) (List.getElem?_eq_getElem (by omega))
          by_cases htt : (ts[q]'hqt) = p.1.term
          · rw [htt] at tc hsame
            rw [HLE.out] at hsame
            rw [← hsame.1] at uc
            clear hsame htt
            go_wp2
            go_roundw
            case rel => exact ⟨q + 1, true, by omega, rfl, by go_num, True.intro⟩
            case measure => simp [intOf]; omega
          · have htt' : ((ts[q]'hqt) == p.1.term) = false := by simpa using htt
            have htt'' : decide ((ts[q]'hqt) = p.1.term) = false := decide_eq_false htt
            generalize (ts[q]'hqt) = tq at *
            clear hsame
            go_wp2
            go_roundw
            case rel => exact ⟨q + 1, b, by omega, rfl, by go_num, True.intro⟩
            case measure => simp [intOf]; omega
        · have hq1 : ¬ (q : Int) < (ts.length : Int) := by omega
          cases b with
          | true =>
            go_wp2
            go_roundw
            case rel => exact ⟨m + 1, ts, us, a, c, a', c', by omega, rfl, rfl, by go_num, Lib.hid ⟨HR.out.1, HR.out.2.1, by have := HR.out.2.2; omega⟩, H8, hw8⟩
            case measure => simp [intOf]; omega
          | false =>
            have hsz := hw8.size
            go_wp2_with (first
              | (at_builtin; refine wpList_append_row rfl (.tmp 82) (.tmp 84) rfl elemI w.heap.size (.slice a ts.length c) ts.length (ts.map intV) (by rfl) (own_below H8.out.t (below1 wr (.cells #[.int .i64 p.1.term] 3))) (some ⟨wr.heap.size, 0, none⟩) 1 1 [.int .i64 p.1.term] (by rfl) (by rfl) (RowAt.new wr #[.int .i64 p.1.term] 3) (intV_one [p.1.term]) (by unfold maxLen; omega) (by omega) (by simp; omega) (fun h => by cases h) ?_; intro a2 c2 w9 hown9 hg9 hat9; have H9 := Lib.hid ((H8.out.below (below1 wr (.cells #[.int .i64 p.1.term] 3))).pushT hown9 hg9 hat9); have hw9 := Below.appended (hw8.alloc hsz (.cells #[.int .i64 p.1.term] 3)) (own_below H8.out.t (below1 wr (.cells #[.int .i64 p.1.term] 3))) hg9 (hw8.alloc hsz (.cells #[.int .i64 p.1.term] 3)).size (Nat.le_refl _); have hsz9 := hw9.size; clear hown9 hg9 hat9)
              | (at_builtin; refine wpList_append_row rfl (.tmp 86) (.tmp 88) rfl elemI w.heap.size (.slice a' us.length c') us.length (us.map intV) (by rfl) (own_below H9.out.u (below1 w9 (.cells #[.int .i64 ((m : Int) + 1)] 3))) (some ⟨w9.heap.size, 0, none⟩) 1 1 [.int .i64 ((m : Int) + 1)] (by rfl) (by rfl) (RowAt.new w9 #[.int .i64 ((m : Int) + 1)] 3) (intV_one [((m : Int) + 1)]) (by have := HUL.out; unfold maxLen; omega) (by have := HUL.out; omega) (by simp; omega) (fun h => by cases h) ?_; intro a3 c3 w10 hown10 hg10 hat10; have H10 := Lib.hid ((H9.out.below (below1 w9 (.cells #[.int .i64 ((m : Int) + 1)] 3))).pushU hown10 hg10 hat10); have hw10 := Below.appended (hw9.alloc hsz9 (.cells #[.int .i64 ((m : Int) + 1)] 3)) (own_below H9.out.u (below1 w9 (.cells #[.int .i64 ((m : Int) + 1)] 3))) hg10 (hw9.alloc hsz9 (.cells #[.int .i64 ((m : Int) + 1)] 3)).size (Nat.le_refl _); clear hown10 hg10 hat10))
            go_roundw
            case rel => exact ⟨m + 1, ts ++ [p.1.term], us ++ [(m : Int) + 1], a2, c2, a3, c3, by omega, by simp, by simp, by go_num, Lib.hid ⟨HR.out.1, HR.out.2.1.push HLE.out (by omega), by simp; omega⟩, H10, hw10⟩
            case measure => simp [intOf]; omega
end Go.Proofs.YtnljdkglncmfaaaGreat
