/-
  Layer 4, the document's answer: what is added.
-/
import Derived.Test.YtifbcdjabdfeeaaEntriesJ
namespace Go.Proofs.Ytifbcdjabdfeeaa
open Go.RowKit
set_option linter.unusedVariables false
theorem enV_one7 (x0 x1 x2 x3 x4 x5 x6 : Int) : ∀ u ∈ ([.int .i64 x0, .int .i64 x1, .int .i64 x2, .int .i64 x3, .int .i64 x4, .int .i64 x5, .int .i64 x6] : List Value), u.oneCell' = true := by
  intro u hu
  simp only [List.mem_cons, List.not_mem_nil, or_false] at hu
  rcases hu with rfl | rfl | rfl | rfl | rfl | rfl | rfl <;> rfl
/-- An append onto nil leaves all that was there. -/
theorem growN_below {w w1 : World} {n : Nat} (hg : (w.drewN n).grownBy w1 (Value.slice none 0 0).ownBlock) : Below w.heap.size w w1 := (Below.many (below0 w) n).grown hg (Nat.le_refl _) (fun k hk => by simp [Value.ownBlock] at hk)
theorem mergeL_stepN {es more : List En} {p k : Nat} (hk : k < more.length) (hp : p ≤ es.length) (h : ¬ (p < es.length ∧ (es.getD p default).1 = (more[k]).1)) : mergeL es p (more.drop k) = mergeL (es.take p ++ [more[k]]) (p + 1) (more.drop (k + 1)) := by
  rw [List.drop_eq_getElem_cons hk, mergeL_step hp h]
theorem mergeL_sameN {es more : List En} {p k : Nat} (hk : k < more.length) (h : p < es.length ∧ (es.getD p default).1 = (more[k]).1) : mergeL es p (more.drop k) = mergeL es (p + 1) (more.drop (k + 1)) := by
  rw [List.drop_eq_getElem_cons hk, mergeL_same h]
set_option maxRecDepth 100000 in
set_option maxHeartbeats 6400000 in
theorem refAdd_any (b t : Int) (a : Option Addr) (cap : Nat) (es : List En) (i T : Int) (hwi : (Lit.int .i64 i).wf = true) (am : Option Addr) (cm : Nat) (more : List En) (w : World) (hl : LogIn w a cap es) (hm : LogIn w am cm more) (hs : more.length ≤ 1000000) :
    Calls Try.prog 26 #[logV b t a es.length cap, .int .i64 i, .int .i64 T, .slice am more.length cm] w (RetLog (addF b t es i T more) w) := by
  have HMay : Hid (∀ W, Below w.heap.size w W → Calls Try.prog 38 #[logV b t a es.length cap] W fun e w' => e = .returned (.bool (mayL b t es)) ∧ Below W.heap.size W w') := fun W h => refMay_any b t a cap es W (hl.below h)
  have HRis : Hid (∀ W, Below w.heap.size w W → Calls Try.prog 46 #[.slice am more.length cm, .int .i64 T] W fun e w' => e = .returned (.bool (rising more T)) ∧ w' = W) := fun W h => refRising_any am cm more T W (hm.row.below h) hm.max
  cases hmay : mayL b t es with
  | false =>
    rw [show addF b t es i T more = (0, 0, [], 1) by unfold addF; rw [if_neg (by simp [hmay])]]
    rw [hmay] at HMay
    generalize rising more T = R at HRis
    clear hl hm
    go_enter Try.func26, Try.ntmps26
    go_wp2_with (first
      | (go_at_call 38; refine (HMay.out _ (below2 _ _ _)).mono ?_; rintro e w1 ⟨rfl, hb1⟩; have hw0 := alloc2_below hb1; have g0 := blk_keep hb1 (alloc2_fst _ _ _); have g1 := blk_keep hb1 (alloc2_snd _ _ _); obtain ⟨hc0, hc1, hc2, hf0, hf1, hf2, hlt0⟩ := box3 g0; obtain ⟨rc0, rc1, rc2, rf0, rf1, rf2, hlt1⟩ := box3 g1)
      | (go_at_call 46; refine (HRis.out _ hw0).mono ?_; rintro e w2 ⟨rfl, rfl⟩))
    obtain ⟨q0, q1, q2, _⟩ := box3 (set3_blk g1 (.int .i64 0) (.int .i64 0) (.slice none 0 0))
    refine bodyPost_ret (v := .tuple #[logV 0 0 none 0 0, .int .i64 1]) (by simp [results, Try.results26, go_sem, q0, q1, q2]) rfl ?_
    exact RetLog.none 1 rfl (set3_below hw0 (by omega) _ _ _)
  | true =>
    rw [hmay] at HMay
    cases hris : rising more T with
    | false =>
      rw [show addF b t es i T more = (0, 0, [], 1) by unfold addF; rw [if_neg (by simp [hris])]]
      rw [hris] at HRis
      clear hl hm
      go_enter Try.func26, Try.ntmps26
      go_wp2_with (first
        | (go_at_call 38; refine (HMay.out _ (below2 _ _ _)).mono ?_; rintro e w1 ⟨rfl, hb1⟩; have hw0 := alloc2_below hb1; have g0 := blk_keep hb1 (alloc2_fst _ _ _); have g1 := blk_keep hb1 (alloc2_snd _ _ _); obtain ⟨hc0, hc1, hc2, hf0, hf1, hf2, hlt0⟩ := box3 g0; obtain ⟨rc0, rc1, rc2, rf0, rf1, rf2, hlt1⟩ := box3 g1)
        | (go_at_call 46; refine (HRis.out _ hw0).mono ?_; rintro e w2 ⟨rfl, rfl⟩))
      obtain ⟨q0, q1, q2, _⟩ := box3 (set3_blk g1 (.int .i64 0) (.int .i64 0) (.slice none 0 0))
      refine bodyPost_ret (v := .tuple #[logV 0 0 none 0 0, .int .i64 1]) (by simp [results, Try.results26, go_sem, q0, q1, q2]) rfl ?_
      exact RetLog.none 1 rfl (set3_below hw0 (by omega) _ _ _)
    | true =>
      rw [hris] at HRis
      by_cases h1 : i < b
      · rw [show addF b t es i T more = (0, 0, [], 9) by unfold addF; rw [if_pos ⟨hmay, hris⟩, if_pos h1]]
        clear hl hm
        go_enter Try.func26, Try.ntmps26
        go_wp2_with (first
          | (go_at_call 38; refine (HMay.out _ (below2 _ _ _)).mono ?_; rintro e w1 ⟨rfl, hb1⟩; have hw0 := alloc2_below hb1; have g0 := blk_keep hb1 (alloc2_fst _ _ _); have g1 := blk_keep hb1 (alloc2_snd _ _ _); obtain ⟨hc0, hc1, hc2, hf0, hf1, hf2, hlt0⟩ := box3 g0; obtain ⟨rc0, rc1, rc2, rf0, rf1, rf2, hlt1⟩ := box3 g1)
          | (go_at_call 46; refine (HRis.out _ hw0).mono ?_; rintro e w2 ⟨rfl, rfl⟩))
        obtain ⟨q0, q1, q2, _⟩ := box3 (set3_blk g1 (.int .i64 0) (.int .i64 0) (.slice none 0 0))
        refine bodyPost_ret (v := .tuple #[logV 0 0 none 0 0, .int .i64 9]) (by simp [results, Try.results26, go_sem, q0, q1, q2]) rfl ?_
        exact RetLog.none 9 rfl (set3_below hw0 (by omega) _ _ _)
      have HLas : Hid (∀ W, Below w.heap.size w W → Calls Try.prog 33 #[logV b t a es.length cap] W fun e w' => e = .returned (.tuple #[.int .i64 (b + es.length), .int .i64 (endT es t)]) ∧ Below W.heap.size W w') := fun W h => by
        have := refLast_any b t a cap es W (hl.below h)
        unfold lastF at this
        rwa [fairL_yes hmay] at this
      generalize endT es t = et at HLas
      by_cases h2 : b + (es.length : Int) < i
      · rw [show addF b t es i T more = (0, 0, [], 10) by unfold addF; rw [if_pos ⟨hmay, hris⟩, if_neg h1, if_pos h2]]
        clear hl hm
        go_enter Try.func26, Try.ntmps26
        go_wp2_with (first
          | (go_at_call 38; refine (HMay.out _ (below2 _ _ _)).mono ?_; rintro e w1 ⟨rfl, hb1⟩; have hw0 := alloc2_below hb1; have g0 := blk_keep hb1 (alloc2_fst _ _ _); have g1 := blk_keep hb1 (alloc2_snd _ _ _); obtain ⟨hc0, hc1, hc2, hf0, hf1, hf2, hlt0⟩ := box3 g0; obtain ⟨rc0, rc1, rc2, rf0, rf1, rf2, hlt1⟩ := box3 g1)
          | (go_at_call 46; refine (HRis.out _ hw0).mono ?_; rintro e w2 ⟨rfl, rfl⟩)
          | (go_at_call 33; refine (HLas.out _ hw0).mono ?_; rintro e w3 ⟨rfl, hb3⟩; replace hw0 := hw0.trans (hb3.mono hw0.size); replace g0 := blk_keep hb3 g0; replace g1 := blk_keep hb3 g1; obtain ⟨hc0, hc1, hc2, hf0, hf1, hf2, hlt0⟩ := box3 g0; obtain ⟨rc0, rc1, rc2, rf0, rf1, rf2, hlt1⟩ := box3 g1))
        obtain ⟨q0, q1, q2, _⟩ := box3 (set3_blk g1 (.int .i64 0) (.int .i64 0) (.slice none 0 0))
        refine bodyPost_ret (v := .tuple #[logV 0 0 none 0 0, .int .i64 10]) (by simp [results, Try.results26, go_sem, q0, q1, q2]) rfl ?_
        exact RetLog.none 10 rfl (set3_below hw0 (by omega) _ _ _)
      have HTer : Hid (∀ W, Below w.heap.size w W → Calls Try.prog 34 #[logV b t a es.length cap, .int .i64 i] W fun e w' => e = .returned (.tuple #[.int .i64 (termL b t es i).1, .bool (termL b t es i).2]) ∧ Below W.heap.size W w') := fun W h => by
        have := refTerm_any b t a cap es i hwi W (hl.below h)
        unfold termF at this
        rwa [fairL_yes hmay] at this
      by_cases h3 : (termL b t es i).1 = T
      rotate_left 1
      · rw [show addF b t es i T more = (0, 0, [], 8) by unfold addF; rw [if_pos ⟨hmay, hris⟩, if_neg h1, if_neg h2, if_neg h3]]
        generalize termL b t es i = x at HTer h3
        obtain ⟨x, y⟩ := x
        simp only at HTer h3
        have h4 : (x != T) = true := by simpa using h3
        clear hl hm h3
        go_enter Try.func26, Try.ntmps26
        go_wp2_with (first
          | (go_at_call 38; refine (HMay.out _ (below2 _ _ _)).mono ?_; rintro e w1 ⟨rfl, hb1⟩; have hw0 := alloc2_below hb1; have g0 := blk_keep hb1 (alloc2_fst _ _ _); have g1 := blk_keep hb1 (alloc2_snd _ _ _); obtain ⟨hc0, hc1, hc2, hf0, hf1, hf2, hlt0⟩ := box3 g0; obtain ⟨rc0, rc1, rc2, rf0, rf1, rf2, hlt1⟩ := box3 g1)
          | (go_at_call 46; refine (HRis.out _ hw0).mono ?_; rintro e w2 ⟨rfl, rfl⟩)
          | (go_at_call 33; refine (HLas.out _ hw0).mono ?_; rintro e w3 ⟨rfl, hb3⟩; replace hw0 := hw0.trans (hb3.mono hw0.size); replace g0 := blk_keep hb3 g0; replace g1 := blk_keep hb3 g1; obtain ⟨hc0, hc1, hc2, hf0, hf1, hf2, hlt0⟩ := box3 g0; obtain ⟨rc0, rc1, rc2, rf0, rf1, rf2, hlt1⟩ := box3 g1)
          | (go_at_call 34; refine (HTer.out _ hw0).mono ?_; rintro e w4 ⟨rfl, hb4⟩; replace hw0 := hw0.trans (hb4.mono hw0.size); replace g0 := blk_keep hb4 g0; replace g1 := blk_keep hb4 g1; obtain ⟨hc0, hc1, hc2, hf0, hf1, hf2, hlt0⟩ := box3 g0; obtain ⟨rc0, rc1, rc2, rf0, rf1, rf2, hlt1⟩ := box3 g1))
        obtain ⟨q0, q1, q2, _⟩ := box3 (set3_blk g1 (.int .i64 0) (.int .i64 0) (.slice none 0 0))
        refine bodyPost_ret (v := .tuple #[logV 0 0 none 0 0, .int .i64 8]) (by simp [results, Try.results26, go_sem, q0, q1, q2]) rfl ?_
        exact RetLog.none 8 rfl (set3_below hw0 (by omega) _ _ _)
      · have HADD : Hid (addF b t es i T more = if 64 < (mergeL es (i - b).toNat more).length then (0, 0, [], 7) else (b, t, mergeL es (i - b).toNat more, 0)) := by
          unfold addF
          rw [Hid, if_pos ⟨hmay, hris⟩, if_neg h1, if_neg h2, if_pos h3]
        have h64 := (mayL_true hmay).2.2.2.2.2.1
        have hb40 := (mayL_true hmay).2.1
        have hb0 := (mayL_true hmay).1
        generalize termL b t es i = x at HTer h3
        obtain ⟨x, y⟩ := x
        simp only at HTer h3
        subst h3
        have HMRow := Lib.hid hm
        have HLRow := Lib.hid hl
        have HEL : Hid ((ensV es).length = es.length * 7) := ensV_length es
        clear hm hl hwi
        obtain ⟨k0, hib⟩ : ∃ k0 : Nat, i - b = (k0 : Int) := ⟨(i - b).toNat, by omega⟩
        have hk0 : k0 ≤ es.length := by omega
        rw [show (i - b).toNat = k0 by omega] at HADD
        generalize hM : mergeL es k0 more = M at HADD
        have HM0 := Lib.hid hM
        clear hM
        go_enter Try.func26, Try.ntmps26
        go_wp2_with (first
          | (go_at_call 38; refine (HMay.out _ (below2 _ _ _)).mono ?_; rintro e w1 ⟨rfl, hb1⟩; have hw0 := alloc2_below hb1; have g0 := blk_keep hb1 (alloc2_fst _ _ _); have g1 := blk_keep hb1 (alloc2_snd _ _ _); obtain ⟨hc0, hc1, hc2, hf0, hf1, hf2, hlt0⟩ := box3 g0; obtain ⟨rc0, rc1, rc2, rf0, rf1, rf2, hlt1⟩ := box3 g1)
          | (go_at_call 46; refine (HRis.out _ hw0).mono ?_; rintro e w2 ⟨rfl, rfl⟩)
          | (go_at_call 33; refine (HLas.out _ hw0).mono ?_; rintro e w3 ⟨rfl, hb3⟩; replace hw0 := hw0.trans (hb3.mono hw0.size); replace g0 := blk_keep hb3 g0; replace g1 := blk_keep hb3 g1; obtain ⟨hc0, hc1, hc2, hf0, hf1, hf2, hlt0⟩ := box3 g0; obtain ⟨rc0, rc1, rc2, rf0, rf1, rf2, hlt1⟩ := box3 g1)
          | (go_at_call 34; refine (HTer.out _ hw0).mono ?_; rintro e w4 ⟨rfl, hb4⟩; replace hw0 := hw0.trans (hb4.mono hw0.size); replace g0 := blk_keep hb4 g0; replace g1 := blk_keep hb4 g1; obtain ⟨hc0, hc1, hc2, hf0, hf1, hf2, hlt0⟩ := box3 g0; obtain ⟨rc0, rc1, rc2, rf0, rf1, rf2, hlt1⟩ := box3 g1)
          | (at_builtin; refine wpList_append_row rfl (.const (.slice none 0 0)) (.tmp 56) rfl elemE (w.heap.size + 2) (.slice none 0 0) 0 [] (by rfl) (World.ownsRow_nil _ _ _ _) a es.length cap (ensV es) (by rfl) HEL.out (HLRow.out.row.below hw0) (ensV_one _) (by unfold maxLen; omega) (by omega) (by omega) HLRow.out.none_ ?_; intro a5 c5 w5 hown5 hg5 hat5; simp only [Nat.zero_add, List.nil_append] at hown5; have hw5 := Below.appended hw0 (World.ownsRow_nil w4 (w.heap.size + 2) 55 7) hg5 hw0.size (by omega); have G0 := blk_grown hg5 g0 (by simp [Value.ownBlock]); have G1 := blk_grown hg5 g1 (by simp [Value.ownBlock])))
        go_loopw [16, 17] (fun o c wr => ∃ (k : Nat) (L : List En) (ao : Option Addr) (co : Nat), k ≤ more.length ∧ c = .int .i64 k ∧ o = .slice ao L.length co ∧ k0 + k ≤ L.length ∧ L.length ≤ es.length + k ∧ Hid (mergeL L (k0 + k) (more.drop k) = M) ∧ wr.ownsRow (w.heap.size + 2) 55 7 (.slice ao L.length co) L.length (ensV L) ∧ wr.heap[w.heap.size]? = some (.cells #[.int .i64 b, .int .i64 t, .slice a es.length cap] 26) ∧ wr.heap[w.heap.size + 1]? = some (.cells #[.int .i64 0, .int .i64 0, .slice none 0 0] 26) ∧ Below w.heap.size w wr) (fun _ c _ => more.length - (intOf c).toNat)
        case atStart => exact ⟨0, es, a5, c5, by omega, rfl, by simp, by omega, by omega, HM0.out, hown5, G0, G1, hw5⟩
        case round =>
          obtain ⟨k, L, ao, co, hk, rfl, rfl, hkL, hLe, HML, hown, g0, g1, hw0⟩ := hrel
          obtain ⟨hc0, hc1, hc2, hf0, hf1, hf2, hlt0⟩ := box3 g0
          obtain ⟨rc0, rc1, rc2, rf0, rf1, rf2, hlt1⟩ := box3 g1
          have hbig : w.heap.size + 2 ≤ wr.heap.size := by omega
          by_cases hlt : k < more.length
          · obtain ⟨mb, moff, rfl, hmlt, m0, m1, m2, m3, m4, m5, m6⟩ := entry_cells (HMRow.out.row.below hw0) hlt
            have hkA : (0 : Int) ≤ (k : Int) := by omega
            have hkB : (k : Int) < (more.length : Int) := by omega
            have hpA : (0 : Int) ≤ (k0 : Int) + (k : Int) := by omega
            have hk00 : (0 : Int) ≤ (k0 : Int) := by omega
            have hk64 : (k0 : Int) ≤ 64 := by omega
            have hkM : (k : Int) ≤ 1000000 := by omega
            by_cases hsame : k0 + k < L.length ∧ (L.getD (k0 + k) default).1 = (more[k]).1
            · have HM2 : Hid (mergeL L (k0 + (k + 1)) (more.drop (k + 1)) = M) := by
                have := HML.out
                rwa [mergeL_sameN hlt hsame, Nat.add_assoc] at this
              obtain ⟨g, off, rfl, hglt, e0, ex⟩ := entry_cells (RowAt.of_own hown) hsame.1
              clear ex m1 m2 m3 m4 m5 m6
              have hee := hsame.2
              rw [getD_at hsame.1] at hee
              rw [hee] at e0
              have hpl := hsame.1
              generalize (more[k]'hlt).1 = X at m0 e0
              have hpi : (k0 : Int) + (k : Int) < (L.length : Int) := by omega
              clear hsame hee
              go_wp2
              go_quiet (fail)
              go_wp2
              go_roundw
              case rel => exact ⟨k + 1, L, some ⟨g, off, none⟩, co, by omega, by go_num, rfl, by omega, by omega, HM2, own_many hown nq, blk_many g0 nq, blk_many g1 nq, Below.many hw0 nq⟩
              case measure => simp [intOf]; omega
            · have HM2 : Hid (mergeL (L.take (k0 + k) ++ [more[k]]) (k0 + (k + 1)) (more.drop (k + 1)) = M) := by
                have := HML.out
                rwa [mergeL_stepN hlt hkL hsame, Nat.add_assoc] at this
              have HLn : Hid ((L.take (k0 + k) ++ [more[k]]).length = k0 + k + 1) := by rw [Hid, List.length_append, List.length_take]; simp; omega
              have HEn : Hid (∀ m : En, more[k]'hlt = m → (ensV L).take ((k0 + k) * 7) ++ enV m = ensV (L.take (k0 + k) ++ [more[k]])) := fun m h => by rw [ensV_take, ensV_append, ← h]; simp [ensV]
              have HEl : Hid (((ensV L).take ((k0 + k) * 7)).length = (k0 + k) * 7) := by rw [Hid, List.length_take, ensV_length]; exact Nat.min_eq_left (Nat.mul_le_mul_right _ hkL)
              have HEo : Hid (∀ u ∈ (ensV L).take ((k0 + k) * 7), u.oneCell' = true) := fun u hu => ensV_one L u (List.mem_of_mem_take hu)
              have hns := hsame
              clear hsame
              have HX : Hid (more[k]'hlt = more[k]'hlt) := rfl
              have hs1 : ∀ W, (Instr.slice 24 (.slice ao L.length co) none (some (.int .i64 ((k0 : Int) + (k : Int)))) none).run Try.prog W = .ok (.slice ao (k0 + k) co) W := fun W => by
                have := slice_toS (P := Try.prog) elemE ao L.length co (k0 + k) (Nat.le_trans hkL (own_le' hown)) W
                rwa [Int.natCast_add] at this
              have HAO : Hid (ao = none → k0 + k = 0) := fun h => by have := own_nil' hown h; omega
              by_cases hpl : k0 + k < L.length
              · obtain ⟨g, off, rfl, hglt, e0, ex⟩ := entry_cells (RowAt.of_own hown) hpl
                clear ex
                have hne : ((L[k0 + k]'hpl).1 == (more[k]'hlt).1) = false := by
                  rw [getD_at hpl] at hns
                  simp
                  exact fun h => hns ⟨hpl, h⟩
                generalize (L[k0 + k]'hpl).1 = Y at e0 hne
                generalize hX : (more[k]'hlt) = X at m0 m1 m2 m3 m4 m5 m6 hne
                have HXE := Lib.hid (HEn.out X hX)
                obtain ⟨X0, X1, X2, X3, X4, X5, X6⟩ := X
                simp only at m0 m1 m2 m3 m4 m5 m6 hne
                have hpi : (k0 : Int) + (k : Int) < (L.length : Int) := by omega
                clear hns hX HEn
                go_wp2
                go_quiet (fail)
                go_wp2_with (first
                  | (at_builtin; refine wpList_append_row rfl (.const (.slice none 0 0)) (.tmp 89) rfl elemE (w.heap.size + 2) (.slice none 0 0) 0 [] (by rfl) (World.ownsRow_nil _ _ _ _) (some ⟨g, off, none⟩) (k0 + k) co ((ensV L).take ((k0 + k) * 7)) (by rfl) HEl.out ((RowAt.of_own (own_front (own_many hown nq) hkL)).below (below0 _)) HEo.out (by unfold maxLen; omega) (by omega) hbig (fun h => HAO.out h) ?_; intro a6 c6 w6 hown6 hg6 hat6; simp only [Nat.zero_add, List.nil_append] at hown6; have hw6 := Below.appended (Below.many hw0 nq) (World.ownsRow_nil (wr.drewN nq) (w.heap.size + 2) 55 7) hg6 hw0.size (by omega); have G0 := blk_grown hg6 (blk_many g0 nq) (by simp [Value.ownBlock]); have G1 := blk_grown hg6 (blk_many g1 nq) (by simp [Value.ownBlock]); have hb6 := growN_below hg6; replace m0 := (hb6.cell (p := ⟨mb, moff + k * 7, none⟩) hmlt).trans m0; replace m1 := (hb6.cell (p := ⟨mb, moff + k * 7 + 1, none⟩) hmlt).trans m1; replace m2 := (hb6.cell (p := ⟨mb, moff + k * 7 + 2, none⟩) hmlt).trans m2; replace m3 := (hb6.cell (p := ⟨mb, moff + k * 7 + 3, none⟩) hmlt).trans m3; replace m4 := (hb6.cell (p := ⟨mb, moff + k * 7 + 4, none⟩) hmlt).trans m4; replace m5 := (hb6.cell (p := ⟨mb, moff + k * 7 + 5, none⟩) hmlt).trans m5; replace m6 := (hb6.cell (p := ⟨mb, moff + k * 7 + 6, none⟩) hmlt).trans m6)
                  | (at_builtin; refine wpList_append_row rfl (.tmp 91) (.tmp 96) rfl elemE (w.heap.size + 2) (.slice a6 (k0 + k) c6) (k0 + k) ((ensV L).take ((k0 + k) * 7)) (by rfl) (own_below hown6 (below1 _ _)) (some ⟨w6.heap.size, 0, none⟩) 1 1 [.int .i64 X0, .int .i64 X1, .int .i64 X2, .int .i64 X3, .int .i64 X4, .int .i64 X5, .int .i64 X6] (by rfl) rfl (RowAt.new w6 #[.int .i64 X0, .int .i64 X1, .int .i64 X2, .int .i64 X3, .int .i64 X4, .int .i64 X5, .int .i64 X6] 55) (enV_one7 X0 X1 X2 X3 X4 X5 X6) (by unfold maxLen; omega) (by omega) (by have := hw6.size; have := blk_lt G1; simp; omega) (fun h => by cases h) ?_; intro a7 c7 w7 hown7 hg7 hat7))
                have ho6 := own_below hown6 (below1 w6 (.cells #[.int .i64 X0, .int .i64 X1, .int .i64 X2, .int .i64 X3, .int .i64 X4, .int .i64 X5, .int .i64 X6] 55))
                have hne0 : (Value.slice a6 (k0 + k) c6).ownBlock ≠ some w.heap.size := fun e => by have := (hown6.lt _ e).1; omega
                have hne1 : (Value.slice a6 (k0 + k) c6).ownBlock ≠ some (w.heap.size + 1) := fun e => by have := (hown6.lt _ e).1; omega
                have G0' := blk_grown hg7 (blk_alloc G0 _) hne0
                have G1' := blk_grown hg7 (blk_alloc G1 _) hne1
                have hw7 := Below.appended (hw6.alloc hw6.size _) ho6 hg7 ((hw6.alloc hw6.size _).size) (by omega)
                have hown8 : w7.ownsRow (w.heap.size + 2) 55 7 (.slice a7 (k0 + k + 1) c7) (k0 + k + 1) (ensV (L.take (k0 + k) ++ [more[k]])) := by rw [← HXE.out]; exact hown7
                go_wp2
                go_roundw
                case rel => exact ⟨k + 1, L.take (k0 + k) ++ [more[k]], a7, c7, by omega, by go_num, by rw [HLn.out], by rw [HLn.out]; omega, by rw [HLn.out]; omega, HM2, by rw [HLn.out]; exact hown8, G0', G1', hw7⟩
                case measure => simp [intOf]; omega
              · have HPE : Hid (k0 + k = L.length) := by rw [Hid]; omega
                generalize hX : (more[k]'hlt) = X at m0 m1 m2 m3 m4 m5 m6
                have HXE := Lib.hid (HEn.out X hX)
                obtain ⟨X0, X1, X2, X3, X4, X5, X6⟩ := X
                simp only at m0 m1 m2 m3 m4 m5 m6
                have hpi : (L.length : Int) ≤ (k0 : Int) + (k : Int) := by omega
                have hpd : decide ((k0 : Int) + (k : Int) < (L.length : Int)) = false := decide_eq_false (by omega)
                clear hns hX HEn
                go_wp2
                go_quiet (fail)
                go_wp2_with (first
                  | (at_builtin; refine wpList_append_row rfl (.const (.slice none 0 0)) (.tmp 89) rfl elemE (w.heap.size + 2) (.slice none 0 0) 0 [] (by rfl) (World.ownsRow_nil _ _ _ _) ao (k0 + k) co ((ensV L).take ((k0 + k) * 7)) (by rfl) HEl.out ((RowAt.of_own (own_front (own_many hown nq) hkL)).below (below0 _)) HEo.out (by unfold maxLen; omega) (by omega) hbig (fun h => HAO.out h) ?_; intro a6 c6 w6 hown6 hg6 hat6; simp only [Nat.zero_add, List.nil_append] at hown6; have hw6 := Below.appended (Below.many hw0 nq) (World.ownsRow_nil (wr.drewN nq) (w.heap.size + 2) 55 7) hg6 hw0.size (by omega); have G0 := blk_grown hg6 (blk_many g0 nq) (by simp [Value.ownBlock]); have G1 := blk_grown hg6 (blk_many g1 nq) (by simp [Value.ownBlock]); have hb6 := growN_below hg6; replace m0 := (hb6.cell (p := ⟨mb, moff + k * 7, none⟩) hmlt).trans m0; replace m1 := (hb6.cell (p := ⟨mb, moff + k * 7 + 1, none⟩) hmlt).trans m1; replace m2 := (hb6.cell (p := ⟨mb, moff + k * 7 + 2, none⟩) hmlt).trans m2; replace m3 := (hb6.cell (p := ⟨mb, moff + k * 7 + 3, none⟩) hmlt).trans m3; replace m4 := (hb6.cell (p := ⟨mb, moff + k * 7 + 4, none⟩) hmlt).trans m4; replace m5 := (hb6.cell (p := ⟨mb, moff + k * 7 + 5, none⟩) hmlt).trans m5; replace m6 := (hb6.cell (p := ⟨mb, moff + k * 7 + 6, none⟩) hmlt).trans m6)
                  | (at_builtin; refine wpList_append_row rfl (.tmp 91) (.tmp 96) rfl elemE (w.heap.size + 2) (.slice a6 (k0 + k) c6) (k0 + k) ((ensV L).take ((k0 + k) * 7)) (by rfl) (own_below hown6 (below1 _ _)) (some ⟨w6.heap.size, 0, none⟩) 1 1 [.int .i64 X0, .int .i64 X1, .int .i64 X2, .int .i64 X3, .int .i64 X4, .int .i64 X5, .int .i64 X6] (by rfl) rfl (RowAt.new w6 #[.int .i64 X0, .int .i64 X1, .int .i64 X2, .int .i64 X3, .int .i64 X4, .int .i64 X5, .int .i64 X6] 55) (enV_one7 X0 X1 X2 X3 X4 X5 X6) (by unfold maxLen; omega) (by omega) (by have := hw6.size; have := blk_lt G1; simp; omega) (fun h => by cases h) ?_; intro a7 c7 w7 hown7 hg7 hat7))
                have ho6 := own_below hown6 (below1 w6 (.cells #[.int .i64 X0, .int .i64 X1, .int .i64 X2, .int .i64 X3, .int .i64 X4, .int .i64 X5, .int .i64 X6] 55))
                have hne0 : (Value.slice a6 (k0 + k) c6).ownBlock ≠ some w.heap.size := fun e => by have := (hown6.lt _ e).1; omega
                have hne1 : (Value.slice a6 (k0 + k) c6).ownBlock ≠ some (w.heap.size + 1) := fun e => by have := (hown6.lt _ e).1; omega
                have G0' := blk_grown hg7 (blk_alloc G0 _) hne0
                have G1' := blk_grown hg7 (blk_alloc G1 _) hne1
                have hw7 := Below.appended (hw6.alloc hw6.size _) ho6 hg7 ((hw6.alloc hw6.size _).size) (by omega)
                have hown8 : w7.ownsRow (w.heap.size + 2) 55 7 (.slice a7 (k0 + k + 1) c7) (k0 + k + 1) (ensV (L.take (k0 + k) ++ [more[k]])) := by rw [← HXE.out]; exact hown7
                go_wp2
                go_roundw
                case rel => exact ⟨k + 1, L.take (k0 + k) ++ [more[k]], a7, c7, by omega, by go_num, by rw [HLn.out], by rw [HLn.out]; omega, by rw [HLn.out]; omega, HM2, by rw [HLn.out]; exact hown8, G0', G1', hw7⟩
                case measure => simp [intOf]; omega
          · have hek : k = more.length := by omega
            have HLM : Hid (L = M) := by
              have := HML.out
              rwa [hek, List.drop_length] at this
            have HLL : Hid (L.length = M.length) := by rw [Hid, HLM.out]
            by_cases hbig64 : (64 : Int) < (L.length : Int)
            · rw [if_pos (by rw [← HLL.out]; omega)] at HADD
              have hbN : 64 < L.length := by omega
              clear hek
              go_wp2
              obtain ⟨q0, q1, q2, _⟩ := box3 (set3_blk g1 (.int .i64 0) (.int .i64 0) (.slice none 0 0))
              refine bodyPost_ret (v := .tuple #[logV 0 0 none 0 0, .int .i64 7]) (by simp [results, Try.results26, go_sem, q0, q1, q2]) rfl ?_
              rw [HADD.out]
              exact RetLog.none 7 rfl (set3_below hw0 (by omega) _ _ _)
            · rw [if_neg (by rw [← HLL.out]; omega), ← HLM.out] at HADD
              have hbN : (L.length : Int) ≤ 64 := by omega
              have hbN2 : L.length ≤ 64 := by omega
              clear hek hbig64
              go_wp2
              obtain ⟨q0, q1, q2, _⟩ := box3 (set3_blk g1 (.int .i64 b) (.int .i64 t) (.slice ao L.length co))
              refine bodyPost_ret (v := .tuple #[logV b t ao L.length co, .int .i64 0]) (by simp [results, Try.results26, go_sem, q0, q1, q2]) rfl ?_
              rw [HADD.out]
              exact RetLog.ok rfl (own_set3 (F := w.heap.size + 1) hown (by omega) _ _ _) (by omega) (set3_below hw0 (by omega) _ _ _)
end Go.Proofs.Ytifbcdjabdfeeaa
