/-
  The law of logs that match.
-/
import Derived.Test.YtnljdkglncmfaaaGreatGrT
namespace Go.Proofs.YtnljdkglncmfaaaGreat
open Go.RowKit
set_option linter.unusedVariables false
set_option maxRecDepth 100000 in
set_option maxHeartbeats 6400000 in
theorem groupMatches_walk (many : Int) (ia : Option Addr) (ic : Nat) (its : List It) (w : World) (hits : ItemsIn w ia ic its) :
    Calls Tryz.prog 4 #[.int .i64 many, .slice ia its.length ic] w fun e w' => e = .returned (.bool true) ∧ Below w.heap.size w w' := by
  by_cases hmany : many < 1 ∨ 16 < many
  · have HN : Hid (∀ W, Calls Tryz.prog 11 #[.int .i64 many] W fun e w' => e = .returned (.tuple #[.pointer none, .int .i64 1]) ∧ w' = W) := fun W => gnew_no many W hmany
    clear hits hmany
    by_cases q120 : 120 < (its.length : Int)
    all_goals (
      go_enter Tryz.func4, Tryz.ntmps4
      go_wp2_with (first
        | (go_at_call 10; refine (groupAwake_any _).mono ?_; rintro e w1 ⟨rfl, hb1⟩)
        | (go_at_call 11; refine (HN.out _).mono ?_; rintro e wx ⟨rfl, hwx⟩; subst hwx))
      go_ret
      exact ⟨rfl, hb1⟩)
  obtain ⟨n, rfl⟩ : ∃ n : Nat, many = (n : Int) := ⟨many.toNat, by omega⟩
  have hn1 : 1 ≤ n := by omega
  have hn16 : n ≤ 16 := by omega
  have HN : Hid (∀ W, Calls Tryz.prog 11 #[.int .i64 (n : Int)] W (RetGr n W)) := fun W => gnew_any n W hn1 hn16
  by_cases q1 : 120 < (its.length : Int)
  · clear hits hmany
    go_enter Tryz.func4, Tryz.ntmps4
    go_wp2_with (first
      | (go_at_call 10; refine (groupAwake_any _).mono ?_; rintro e w1 ⟨rfl, hb1⟩)
      | (go_at_call 11; refine (HN.out _).mono ?_; rintro e w2 ⟨G, L, rfl, h2, hf2, hb2⟩; have hw2 := hb1.trans (hb2.mono hb1.size)))
    go_ret
    exact ⟨rfl, hw2⟩
  have HI := Lib.hid hits
  have hr0 : Hid (Sure n 0 (newGr n) gh0) := Lib.hid (Sure.new hn1 hn16)
  clear hits hmany
  go_enter Tryz.func4, Tryz.ntmps4
  go_wp2_with (first
    | (go_at_call 10; refine (groupAwake_any _).mono ?_; rintro e w1 ⟨rfl, hb1⟩)
    | (go_at_call 11; refine (HN.out _).mono ?_; rintro e w2 ⟨G, L, rfl, h2, hf2, hb2⟩; have hw2 := hb1.trans (hb2.mono hb1.size); have hfw : ∀ x ∈ gall G L, w.heap.size ≤ x := (fun x hx => Nat.le_trans hb1.size (hf2 x hx))))
  go_loopw [8] (fun j wr => ∃ (k : Nat) (L' : GL) (g : Gr) (h : Gh), k ≤ its.length ∧ j = .int .i64 (k : Int) ∧ Hid (Sure n k g h) ∧ GAt wr G L' g ∧ (∀ x ∈ gall G L', w.heap.size ≤ x) ∧ Below w.heap.size w wr) (fun j _ => its.length - (intOf j).toNat)
  case atStart => exact ⟨0, L, newGr n, gh0, by omega, rfl, hr0, h2, hfw, hw2⟩
  case round =>
    clear h2 hf2 hw2 hfw hb1 hb2 hr0
    obtain ⟨k, L4, g, h, hk, rfl, HR, h4, hf4, hw4⟩ := hrel
    have hk0 : (0 : Int) ≤ (k : Int) := by omega
    by_cases hlt : k < its.length
    · have hk1 : (k : Int) < (its.length : Int) := by omega
      obtain ⟨nb, noff, rfl, nlt, n0, n1, n2, n3⟩ := item_cells (HI.out.below hw4) hlt
      obtain ⟨h5, he5, hs5⟩ := HR.out.next (its[k]'hlt)
      have HN5 : Hid (Sure n (k + 1) (g.item (its[k]'hlt)) h5) := Lib.hid hs5
      have HDO : Hid (Calls Tryz.prog 12 #[.pointer (some ⟨G, 0, none⟩), itV (its[k]'hlt).1 (its[k]'hlt).2.1 (its[k]'hlt).2.2.1 (its[k]'hlt).2.2.2] wr (RetE (g.does (its[k]'hlt).1 (its[k]'hlt).2.1 (its[k]'hlt).2.2.1 (its[k]'hlt).2.2.2) G L4 wr)) := do_any HR.out.ran.ok h4 _ _ _ _ (by have := HR.out.ran.net; omega)
      clear hs5 he5 HR
      generalize (its[k]'hlt) = it at *
      obtain ⟨t0, t1, t2, t3⟩ := it
      simp only at n0 n1 n2 n3 HDO
      have hg5 : g.item (t0, t1, t2, t3) = (g.does t0 t1 t2 t3).1 := rfl
      rw [hg5] at HN5
      generalize g.does t0 t1 t2 t3 = r5 at *
      obtain ⟨g5, e5⟩ := r5
      clear hg5
      go_wp2_with (go_at_call 12; refine HDO.out.mono ?_; rintro e w5 ⟨rfl, L5, g5at, S5⟩; have hw5 : Below w.heap.size w w5 := hw4.trans (S5.chg.to_below hf4 hw4.size); have hf5 : ∀ x ∈ gall G L5, w.heap.size ≤ x := (fun x hx => (S5.sub x hx).elim (hf4 x) (fun q => Nat.le_trans hw4.size q)))
      go_roundw
      case rel => exact ⟨k + 1, L5, g5, h5, by omega, by go_num, HN5, g5at, hf5, hw5⟩
      case measure => simp [intOf]; omega
    have hk1 : ¬ (k : Int) < (its.length : Int) := by omega
    generalize wr = W0 at *
    have HG : Hid (∀ W, Below W0.heap.size W0 W → GAt W G L4 g) := fun W hb => h4.below hb
    have hgn : g.ms.length ≤ 16 := HR.out.ran.ok.n16
    have hgm : g.ms.length = n := HR.out.ran.many
    have HGM := Lib.hid hgm
    clear hgm hlt
    have hwr0 := below0 W0
    go_wp2
    go_loopw [9] (fun j wx => ∃ (m : Nat), m ≤ n ∧ j = .int .i64 ((m : Int) + 1) ∧ Below W0.heap.size W0 wx) (fun j _ => (n + 1 : Nat) - (intOf j).toNat)
    case atStart => exact ⟨0, by omega, rfl, hwr0⟩
    case round =>
      clear hwr0
      obtain ⟨m, hm, rfl, hb6⟩ := hrel
      by_cases hmn : m < n
      rotate_left 1
      · have hm1 : ¬ (m : Int) + 1 ≤ (n : Int) := by omega
        go_wp2
        go_ret
        exact ⟨rfl, hw4.trans (hb6.mono hw4.size)⟩
      have hm1 : (m : Int) + 1 ≤ (n : Int) := by omega
      obtain ⟨p, hp⟩ : ∃ p, g.ms[m]? = some p := ⟨_, List.getElem?_eq_getElem (by rw [HGM.out]; exact hmn)⟩
      have hl64 := (HR.out.ran.ok.pair m p hp).mb.len64
      have HLX : Hid (∀ W, GAt W G L4 g → Calls Tryz.prog 15 #[.pointer (some ⟨G, 0, none⟩), .int .i64 ((m : Int) + 1)] W (RetRow 42 7 p.1.log.length (ensV p.1.log) W)) := fun W h => glog_any h hgn hp hl64
      go_wp2
      go_loopw [10] (fun j wx => ∃ (q : Nat), q ≤ m ∧ j = .int .i64 ((q : Int) + 1) ∧ Below W0.heap.size W0 wx) (fun j _ => (m + 1 : Nat) - (intOf j).toNat)
      case atStart => exact ⟨0, by omega, rfl, hb6⟩
      case round =>
        clear hb6
        obtain ⟨q, hq, rfl, hb7⟩ := hrel
        by_cases hqm : q < m
        rotate_left 1
        · have hq1 : ¬ (q : Int) + 1 < (m : Int) + 1 := by omega
          go_wp2
          go_roundw
          case rel => exact ⟨m + 1, by omega, by go_num, hb7⟩
          case measure => simp [intOf]; omega
        have hq1 : (q : Int) + 1 < (m : Int) + 1 := by omega
        obtain ⟨p', hp'⟩ : ∃ p', g.ms[q]? = some p' := ⟨_, List.getElem?_eq_getElem (by rw [HGM.out]; omega)⟩
        have hl64' := (HR.out.ran.ok.pair q p' hp').mb.len64
        have HLY : Hid (∀ W, GAt W G L4 g → Calls Tryz.prog 15 #[.pointer (some ⟨G, 0, none⟩), .int .i64 ((q : Int) + 1)] W (RetRow 42 7 p'.1.log.length (ensV p'.1.log) W)) := fun W h => glog_any h hgn hp' hl64'
        have HMA : Hid (∀ (k : Nat) (e f : En), p.1.log[k]? = some e → p'.1.log[k]? = some f → e.1 = f.1 → p.1.log.take (k + 1) = p'.1.log.take (k + 1)) := fun k e f h1 h2 h3 => by
          have := HR.out.inv.matches HR.out.ran.ok (i := (m : Int) + 1) (j := (q : Int) + 1) (k := k) (e := e) (f := f) (by omega) (by have := HGM.out; omega) (by omega) (by have := HGM.out; omega) (by rw [at_some hp]; exact h1) (by rw [at_some hp']; exact h2) h3
          rwa [at_some hp, at_some hp'] at this
        have HL7 := Lib.hid (HLX.out _ (HG.out _ hb7))
        go_wp2_with (first
          | (go_at_call 15; refine HL8.out.mono ?_; rintro e w9 ⟨A9, c9, rfl, own9, hb9'⟩; have hb9 := hb8.trans (hb9'.mono hb8.size); have own8' := own_below own8 hb9')
          | (go_at_call 15; refine HL7.out.mono ?_; rintro e w8 ⟨A8, c8, rfl, own8, hb8'⟩; have hb8 := hb7.trans (hb8'.mono hb7.size); have HL8 := Lib.hid (HLY.out _ (HG.out _ hb8))))
        generalize p.1.log = X at *
        generalize p'.1.log = Y at *
        have lx := LogIn.of_own own8'
        have ly := LogIn.of_own own9
        clear own8 own8' own9 hb9' hb8' hb8 hb7 HL7 HL8 HLX HLY
        go_loopw [13, 14] (fun up j wx => ∃ (k u : Nat), k ≤ X.length ∧ k ≤ Y.length ∧ u ≤ k ∧ Hid (X.take u = Y.take u) ∧ up = .int .i64 (u : Int) ∧ j = .int .i64 (k : Int) ∧ LogIn wx A8 c8 X ∧ LogIn wx A9 c9 Y ∧ Below W0.heap.size W0 wx) (fun _ j _ => X.length - (intOf j).toNat)
        case atStart => exact ⟨0, 0, by omega, by omega, by omega, rfl, rfl, rfl, lx, ly, hb9⟩
        case round =>
          clear lx ly hb9
          obtain ⟨k2, u, hkx, hky, huk, HT, rfl, rfl, lx, ly, hb9⟩ := hrel
          have dr := (below0 wr).drew
          have lx' := Lib.hid (lx.below dr)
          have ly' := Lib.hid (ly.below dr)
          have hbd := hb9.trans (dr.mono hb9.size)
          have hk20 : (0 : Int) ≤ (k2 : Int) := by omega
          by_cases kx : k2 < X.length
          · have kx1 : (k2 : Int) < (X.length : Int) := by omega
            by_cases ky : k2 < Y.length
            · have ky1 : (k2 : Int) < (Y.length : Int) := by omega
              obtain ⟨b, off, rfl, blt, x0, _⟩ := entry_cells lx.row kx
              obtain ⟨b', off', rfl, blt', y0, _⟩ := entry_cells ly.row ky
              by_cases htt : (X[k2]'kx).1 = (Y[k2]'ky).1
              · have HT' := Lib.hid (HMA.out k2 _ _ (List.getElem?_eq_getElem kx) (List.getElem?_eq_getElem ky) htt)
                rw [← htt] at y0
                generalize (X[k2]'kx).1 = tx at *
                clear htt
                go_wp2
                go_region_held3 (fun W => W.cell? ⟨b, off + k2 * 7, none⟩ = some (.int .i64 tx) ∧ W.cell? ⟨b', off' + k2 * 7, none⟩ = some (.int .i64 tx)) (first | exact ⟨x0, y0⟩ | go_keep) (fail)
                go_wp2
                go_roundw
                case rel => exact ⟨k2 + 1, k2 + 1, by omega, by omega, by omega, HT', by go_num, by go_num, lx'.out, ly'.out, hbd⟩
                case measure => simp [intOf]; omega
              · have htt' : ((X[k2]'kx).1 == (Y[k2]'ky).1) = false := by simpa using htt
                have htt'' : decide ((X[k2]'kx).1 = (Y[k2]'ky).1) = false := decide_eq_false htt
                generalize (X[k2]'kx).1 = tx at *
                generalize (Y[k2]'ky).1 = ty at *
                go_wp2
                go_region_held3 (fun W => W.cell? ⟨b, off + k2 * 7, none⟩ = some (.int .i64 tx) ∧ W.cell? ⟨b', off' + k2 * 7, none⟩ = some (.int .i64 ty)) (first | exact ⟨x0, y0⟩ | go_keep) (fail)
                go_wp2
                go_roundw
                case rel => exact ⟨k2 + 1, u, by omega, by omega, by omega, HT, rfl, by go_num, lx'.out, ly'.out, hbd⟩
                case measure => simp [intOf]; omega
            · have ky1 : ¬ (k2 : Int) < (Y.length : Int) := by omega
              have hux : u ≤ X.length := by omega
              have huy : u ≤ Y.length := by omega
              have hux0 : X.length ≤ c8 := lx.cap
              have huy0 : Y.length ≤ c9 := ly.cap
              have hsl : ∀ W, (Instr.slice 37 (.slice A8 X.length c8) none (some (.int .i64 (u : Int))) none).run Tryz.prog W = .ok (.slice A8 u c8) W := fun W => slice_toS (P := Tryz.prog) elemE A8 X.length c8 u (by omega) W
              have hsl' : ∀ W, (Instr.slice 37 (.slice A9 Y.length c9) none (some (.int .i64 (u : Int))) none).run Tryz.prog W = .ok (.slice A9 u c9) W := fun W => slice_toS (P := Tryz.prog) elemE A9 Y.length c9 u (by omega) W
              have HSA : Hid (Calls Tryz.prog 16 #[.slice A8 u c8, .slice A9 u c9] wr.drew fun e w' => e = .returned (.bool true) ∧ Below wr.drew.heap.size wr.drew w') := by
                have e1 : (X.take u).length = u := by rw [List.length_take]; omega
                have e2 : (Y.take u).length = u := by rw [List.length_take]; omega
                have := same_any A8 c8 (X.take u) A9 c9 (Y.take u) wr.drew (by have := lx'.out.row.take (u * 7); rwa [ensV_take] at this) (by have := ly'.out.row.take (u * 7); rwa [ensV_take] at this) (by rw [e1]; unfold maxLen; omega)
                rw [e1, e2, decide_eq_true HT.out] at this
                exact this
              go_wp2
              go_region_held3 (fun W => True) (trivial) ((go_at_call 16; refine HSA.out.mono ?_; rintro e w10 ⟨rfl, hb10⟩; have hb11 := hbd.trans (hb10.mono hbd.size)))
              go_wp2
              go_roundw
              case rel => exact ⟨q + 1, by omega, by go_num, hb11⟩
              case measure => simp [intOf]; omega
          · have kx1 : ¬ (k2 : Int) < (X.length : Int) := by omega
            have hux : u ≤ X.length := by omega
            have huy : u ≤ Y.length := by omega
            have hux0 : X.length ≤ c8 := lx.cap
            have huy0 : Y.length ≤ c9 := ly.cap
            have hsl : ∀ W, (Instr.slice 37 (.slice A8 X.length c8) none (some (.int .i64 (u : Int))) none).run Tryz.prog W = .ok (.slice A8 u c8) W := fun W => slice_toS (P := Tryz.prog) elemE A8 X.length c8 u (by omega) W
            have hsl' : ∀ W, (Instr.slice 37 (.slice A9 Y.length c9) none (some (.int .i64 (u : Int))) none).run Tryz.prog W = .ok (.slice A9 u c9) W := fun W => slice_toS (P := Tryz.prog) elemE A9 Y.length c9 u (by omega) W
            have HSA : Hid (Calls Tryz.prog 16 #[.slice A8 u c8, .slice A9 u c9] wr.drew fun e w' => e = .returned (.bool true) ∧ Below wr.drew.heap.size wr.drew w') := by
              have e1 : (X.take u).length = u := by rw [List.length_take]; omega
              have e2 : (Y.take u).length = u := by rw [List.length_take]; omega
              have := same_any A8 c8 (X.take u) A9 c9 (Y.take u) wr.drew (by have := lx'.out.row.take (u * 7); rwa [ensV_take] at this) (by have := ly'.out.row.take (u * 7); rwa [ensV_take] at this) (by rw [e1]; unfold maxLen; omega)
              rw [e1, e2, decide_eq_true HT.out] at this
              exact this
            go_wp2
            go_region_held3 (fun W => True) (trivial) ((go_at_call 16; refine HSA.out.mono ?_; rintro e w10 ⟨rfl, hb10⟩; have hb11 := hbd.trans (hb10.mono hbd.size)))
            go_wp2
            go_roundw
            case rel => exact ⟨q + 1, by omega, by go_num, hb11⟩
            case measure => simp [intOf]; omega
end Go.Proofs.YtnljdkglncmfaaaGreat
