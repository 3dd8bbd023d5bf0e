/-
  Layer 5's laws: VoteOnce.
-/
import Derived.Test.YtifbcdjabdfeeaaVoteF
import Derived.Test.YtifbcdjabdfeeaaOpenLogs
namespace Go.Proofs.Ytifbcdjabdfeeaa
open Go.RowKit
set_option linter.unusedVariables false
theorem set2_cell_far {w : World} {F b o : Nat} (h : b ≠ F) (x y : Value) : (set2 w F x y).cell? ⟨b, o, none⟩ = w.cell? ⟨b, o, none⟩ := by
  rw [set2, World.cell?_setCell_far _ _ _ _ (fun e => h e.symm), World.cell?_setCell_far _ _ _ _ (fun e => h e.symm)]
/-- What a vote keeps: the term never falls; in the same term a vote that was given stays; who is given it asked for it, in that term; a ballot that may be stays one. -/
theorem grantF_keeps (t v b u : Int) (es : List En) (f T I LT : Int) : t ≤ (grantF t v b u es f T I LT).1 ∧ ((grantF t v b u es f T I LT).1 = t → v ≠ 0 → (grantF t v b u es f T I LT).2.1 = v) ∧
    ((grantF t v b u es f T I LT).2.2 = true → (grantF t v b u es f T I LT).2.1 = f ∧ (grantF t v b u es f T I LT).1 = T) ∧ (mayV t v = true → mayV (grantF t v b u es f T I LT).1 (grantF t v b u es f T I LT).2.1 = true) := by
  have hs : t ≤ (seeF t v T).1 ∧ ((seeF t v T).1 = t → (seeF t v T).2 = v) ∧ (mayV t v = true → mayV (seeF t v T).1 (seeF t v T).2 = true) := by
    unfold seeF
    by_cases h : t < T ∧ T ≤ 1073741824
    · rw [if_pos h]
      refine ⟨by simp; omega, fun e => by simp at e; omega, fun hm => ?_⟩
      unfold mayV at *
      simp at *
      omega
    · rw [if_neg h]
      exact ⟨by simp, fun _ => rfl, fun h => h⟩
  by_cases hc : T = (seeF t v T).1 ∧ memberB f = true ∧ ((seeF t v T).2 = 0 ∨ (seeF t v T).2 = f) ∧ newerB I LT (lastF b u es).1 (lastF b u es).2 = true
  · have h1 : grantF t v b u es f T I LT = ((seeF t v T).1, f, true) := if_pos hc
    rw [h1]
    refine ⟨hs.1, fun e hv => ?_, fun _ => ⟨rfl, hc.1.symm⟩, fun hm => ?_⟩
    · have := hs.2.1 e
      rcases hc.2.2.1 with h | h
      · omega
      · simp only; omega
    · have := hs.2.2 hm
      unfold mayV at *
      simp only [Bool.and_eq_true, Bool.or_eq_true] at *
      exact ⟨this.1, .inr hc.2.1⟩
  · have h1 : grantF t v b u es f T I LT = ((seeF t v T).1, (seeF t v T).2, false) := if_neg hc
    rw [h1]
    exact ⟨hs.1, fun e _ => hs.2.1 e, fun h => (by cases h), hs.2.2⟩
set_option maxRecDepth 100000 in
set_option maxHeartbeats 6400000 in
theorem voteOnce_walk (t v b u : Int) (a : Option Addr) (cap : Nat) (es : List En) (am : Option Addr) (cm : Nat) (ms : List Mg) (w : World) (hl : LogIn w a cap es) (hms : MsgsIn w am cm ms) :
    Calls Try.prog 7 #[ballotV t v, logV b u a es.length cap, .slice am ms.length cm] w fun e w' => e = .returned (.bool true) ∧ Below w.heap.size w w' := by
  have HF : Hid (∀ W, Calls Try.prog 16 #[logV b u a es.length cap] W fun e w' => e = .returned (.bool (decide ((es.length : Int) ≤ 100))) ∧ Below W.heap.size W w') := fun W => few_any b u a es.length cap W
  have HM : Hid (∀ W, Calls Try.prog 22 #[ballotV t v] W fun e w' => e = .returned (.bool (mayV t v)) ∧ Below W.heap.size W w') := fun W => mayV_any t v W
  have HG : Hid (∀ W t v m am cm, Below w.heap.size w W → Calls Try.prog 17 #[ballotV t v, logV b u a es.length cap, msgV m am cm] W fun e w' => e = .returned (.tuple #[ballotV (grantF t v b u es m.2.1 m.2.2.2.1 m.2.2.2.2.1 m.2.2.2.2.2.1).1 (grantF t v b u es m.2.1 m.2.2.2.1 m.2.2.2.2.1 m.2.2.2.2.2.1).2.1, .bool (grantF t v b u es m.2.1 m.2.2.2.1 m.2.2.2.2.1 m.2.2.2.2.2.1).2.2]) ∧ Below W.heap.size W w') := fun W t v m am cm h => grant_any t v b u a cap es m am cm W (hl.below h)
  have HKE : Hid (∀ t v f T I LT, t ≤ (grantF t v b u es f T I LT).1 ∧ ((grantF t v b u es f T I LT).1 = t → v ≠ 0 → (grantF t v b u es f T I LT).2.1 = v) ∧ ((grantF t v b u es f T I LT).2.2 = true → (grantF t v b u es f T I LT).2.1 = f ∧ (grantF t v b u es f T I LT).1 = T) ∧ (mayV t v = true → mayV (grantF t v b u es f T I LT).1 (grantF t v b u es f T I LT).2.1 = true)) := fun t v f T I LT => grantF_keeps t v b u es f T I LT
  clear hl
  generalize hn : es.length = n at HF HG ⊢
  clear hn
  have HMS := Lib.hid hms
  clear hms
  by_cases h100 : (n : Int) ≤ 100
  rotate_left 1
  · rw [decide_eq_false h100] at HF
    clear h100
    go_enter Try.func7, Try.ntmps7
    go_wp2_with (first
      | (go_at_call 15; refine (voteAwake_any _).mono ?_; rintro e w1 ⟨rfl, hb1⟩; have hw0 := below2 w (.cells #[.int .i64 t, .int .i64 v] 23) (.cells #[.int .i64 b, .int .i64 u, .slice a n cap] 26); have g0 := alloc2_fst w (.cells #[.int .i64 t, .int .i64 v] 23) (.cells #[.int .i64 b, .int .i64 u, .slice a n cap] 26); have g1 := alloc2_snd w (.cells #[.int .i64 t, .int .i64 v] 23) (.cells #[.int .i64 b, .int .i64 u, .slice a n cap] 26); replace hw0 := hw0.trans (hb1.mono hw0.size); replace g0 := blk_keep hb1 g0; replace g1 := blk_keep hb1 g1; obtain ⟨hc0, hc1, _, _, hlt0⟩ := box2 g0; obtain ⟨lc0, lc1, lc2, _, _, _, hlt1⟩ := box3 g1)
      | (go_at_call 16; refine (HF.out _).mono ?_; rintro e w2 ⟨rfl, hb2⟩; replace hw0 := hw0.trans (hb2.mono hw0.size); replace g0 := blk_keep hb2 g0; replace g1 := blk_keep hb2 g1; obtain ⟨hc0, hc1, _, _, hlt0⟩ := box2 g0; obtain ⟨lc0, lc1, lc2, _, _, _, hlt1⟩ := box3 g1))
    go_ret
    exact ⟨rfl, hw0⟩
  rw [decide_eq_true h100] at HF
  clear h100
  by_cases hm100 : (100 : Int) < (ms.length : Int)
  · go_enter Try.func7, Try.ntmps7
    go_wp2_with (first
      | (go_at_call 15; refine (voteAwake_any _).mono ?_; rintro e w1 ⟨rfl, hb1⟩; have hw0 := below2 w (.cells #[.int .i64 t, .int .i64 v] 23) (.cells #[.int .i64 b, .int .i64 u, .slice a n cap] 26); have g0 := alloc2_fst w (.cells #[.int .i64 t, .int .i64 v] 23) (.cells #[.int .i64 b, .int .i64 u, .slice a n cap] 26); have g1 := alloc2_snd w (.cells #[.int .i64 t, .int .i64 v] 23) (.cells #[.int .i64 b, .int .i64 u, .slice a n cap] 26); replace hw0 := hw0.trans (hb1.mono hw0.size); replace g0 := blk_keep hb1 g0; replace g1 := blk_keep hb1 g1; obtain ⟨hc0, hc1, _, _, hlt0⟩ := box2 g0; obtain ⟨lc0, lc1, lc2, _, _, _, hlt1⟩ := box3 g1)
      | (go_at_call 16; refine (HF.out _).mono ?_; rintro e w2 ⟨rfl, hb2⟩; replace hw0 := hw0.trans (hb2.mono hw0.size); replace g0 := blk_keep hb2 g0; replace g1 := blk_keep hb2 g1; obtain ⟨hc0, hc1, _, _, hlt0⟩ := box2 g0; obtain ⟨lc0, lc1, lc2, _, _, _, hlt1⟩ := box3 g1))
    go_ret
    exact ⟨rfl, hw0⟩
  by_cases hmay : mayV t v = true
  rotate_left 1
  · rw [show mayV t v = false by simpa using hmay] at HM
    clear hmay
    go_enter Try.func7, Try.ntmps7
    go_wp2_with (first
      | (go_at_call 15; refine (voteAwake_any _).mono ?_; rintro e w1 ⟨rfl, hb1⟩; have hw0 := below2 w (.cells #[.int .i64 t, .int .i64 v] 23) (.cells #[.int .i64 b, .int .i64 u, .slice a n cap] 26); have g0 := alloc2_fst w (.cells #[.int .i64 t, .int .i64 v] 23) (.cells #[.int .i64 b, .int .i64 u, .slice a n cap] 26); have g1 := alloc2_snd w (.cells #[.int .i64 t, .int .i64 v] 23) (.cells #[.int .i64 b, .int .i64 u, .slice a n cap] 26); replace hw0 := hw0.trans (hb1.mono hw0.size); replace g0 := blk_keep hb1 g0; replace g1 := blk_keep hb1 g1; obtain ⟨hc0, hc1, _, _, hlt0⟩ := box2 g0; obtain ⟨lc0, lc1, lc2, _, _, _, hlt1⟩ := box3 g1)
      | (go_at_call 16; refine (HF.out _).mono ?_; rintro e w2 ⟨rfl, hb2⟩; replace hw0 := hw0.trans (hb2.mono hw0.size); replace g0 := blk_keep hb2 g0; replace g1 := blk_keep hb2 g1; obtain ⟨hc0, hc1, _, _, hlt0⟩ := box2 g0; obtain ⟨lc0, lc1, lc2, _, _, _, hlt1⟩ := box3 g1)
      | (go_at_call 22; refine (HM.out _).mono ?_; rintro e w3 ⟨rfl, hb3⟩; replace hw0 := hw0.trans (hb3.mono hw0.size); replace g0 := blk_keep hb3 g0; replace g1 := blk_keep hb3 g1; obtain ⟨hc0, hc1, _, _, hlt0⟩ := box2 g0; obtain ⟨lc0, lc1, lc2, _, _, _, hlt1⟩ := box3 g1))
    go_ret
    exact ⟨rfl, hw0⟩
  rw [hmay] at HM
  have HMAY := Lib.hid hmay
  clear hmay
  go_enter Try.func7, Try.ntmps7
  go_wp2_with (first
    | (go_at_call 15; refine (voteAwake_any _).mono ?_; rintro e w1 ⟨rfl, hb1⟩; have hw0 := below2 w (.cells #[.int .i64 t, .int .i64 v] 23) (.cells #[.int .i64 b, .int .i64 u, .slice a n cap] 26); have g0 := alloc2_fst w (.cells #[.int .i64 t, .int .i64 v] 23) (.cells #[.int .i64 b, .int .i64 u, .slice a n cap] 26); have g1 := alloc2_snd w (.cells #[.int .i64 t, .int .i64 v] 23) (.cells #[.int .i64 b, .int .i64 u, .slice a n cap] 26); replace hw0 := hw0.trans (hb1.mono hw0.size); replace g0 := blk_keep hb1 g0; replace g1 := blk_keep hb1 g1; obtain ⟨hc0, hc1, _, _, hlt0⟩ := box2 g0; obtain ⟨lc0, lc1, lc2, _, _, _, hlt1⟩ := box3 g1)
    | (go_at_call 16; refine (HF.out _).mono ?_; rintro e w2 ⟨rfl, hb2⟩; replace hw0 := hw0.trans (hb2.mono hw0.size); replace g0 := blk_keep hb2 g0; replace g1 := blk_keep hb2 g1; obtain ⟨hc0, hc1, _, _, hlt0⟩ := box2 g0; obtain ⟨lc0, lc1, lc2, _, _, _, hlt1⟩ := box3 g1)
    | (go_at_call 22; refine (HM.out _).mono ?_; rintro e w3 ⟨rfl, hb3⟩; replace hw0 := hw0.trans (hb3.mono hw0.size); replace g0 := blk_keep hb3 g0; replace g1 := blk_keep hb3 g1; obtain ⟨hc0, hc1, _, _, hlt0⟩ := box2 g0; obtain ⟨lc0, lc1, lc2, _, _, _, hlt1⟩ := box3 g1))
  clear hc0 hc1 lc0 lc1 lc2 hlt0 hlt1
  have hcur := g0
  go_loopw [9] (fun i wr => ∃ (k : Nat) (t' v' : Int), k ≤ ms.length ∧ i = .int .i64 k ∧ Hid (mayV t' v' = true) ∧ wr.heap[w.heap.size]? = some (.cells #[.int .i64 t', .int .i64 v'] 23) ∧ wr.heap[w.heap.size + 1]? = some (.cells #[.int .i64 b, .int .i64 u, .slice a n cap] 26) ∧ Below w.heap.size w wr) (fun i _ => ms.length - (intOf i).toNat)
  case atStart => exact ⟨0, t, v, by omega, rfl, HMAY, g0, g1, hw0⟩
  case round =>
    obtain ⟨k, t', v', hk, rfl, HMY, c0, c1, hb⟩ := hrel
    obtain ⟨hc0, hc1, hf0, hf1, hlt0⟩ := box2 c0
    obtain ⟨lc0, lc1, lc2, _, _, _, hlt1⟩ := box3 c1
    by_cases hlt : k < ms.length
    · obtain ⟨mb, off, am', cm', rfl, hmlt, hmc, hml, hmw⟩ := (HMS.out.below hb).at_ k _ (List.getElem?_eq_getElem hlt)
      generalize (ms[k]'hlt) = m at hmc hml hmw
      obtain ⟨mk, f, o, T, I, LT, C, Y, L⟩ := m
      have m0 := hmc 0 _ rfl
      have m1 := hmc 1 _ rfl
      have m2 := hmc 2 _ rfl
      have m3 := hmc 3 _ rfl
      have m4 := hmc 4 _ rfl
      have m5 := hmc 5 _ rfl
      have m6 := hmc 6 _ rfl
      have m7 := hmc 7 _ rfl
      have m8 := hmc 8 _ rfl
      simp only [Nat.add_zero, ← Nat.add_assoc] at m0 m1 m2 m3 m4 m5 m6 m7 m8
      clear hmc hml hmw
      have hg := HG.out
      have hke := HKE.out t' v' f T I LT
      have HGG : Hid (∀ W, Below w.heap.size w W → Calls Try.prog 17 #[ballotV t' v', logV b u a n cap, msgV (mk, f, o, T, I, LT, C, Y, L) am' cm'] W fun e w' => e = .returned (.tuple #[ballotV (grantF t' v' b u es f T I LT).1 (grantF t' v' b u es f T I LT).2.1, .bool (grantF t' v' b u es f T I LT).2.2]) ∧ Below W.heap.size W w') := fun W h => hg W t' v' _ am' cm' h
      clear hg
      generalize grantF t' v' b u es f T I LT = G at HGG hke
      obtain ⟨G1, G2, G3⟩ := G
      simp only at HGG hke
      have HK2 := Lib.hid hke
      clear hke
      have hk0 : (0 : Int) ≤ (k : Int) := by omega
      have hk1 : (k : Int) < (ms.length : Int) := by omega
      go_wp2
      go_cut [10, 11] (fun p q wx => ∃ X, p = .pointer (some ⟨X, 0, none⟩) ∧ q = .bool G3 ∧ wr.heap.size ≤ X ∧ wx.heap[X]? = some (.cells #[.int .i64 G1, .int .i64 G2] 23) ∧ Below wr.heap.size wr wx)
      case first =>
        go_region_held3 (fun W => W.cell? ⟨w.heap.size, 0, none⟩ = some (.int .i64 t') ∧ W.cell? ⟨w.heap.size, 1, none⟩ = some (.int .i64 v') ∧ W.cell? ⟨w.heap.size + 1, 0, none⟩ = some (.int .i64 b) ∧ W.cell? ⟨w.heap.size + 1, 1, none⟩ = some (.int .i64 u) ∧ W.cell? ⟨w.heap.size + 1, 2, none⟩ = some (.slice a n cap) ∧ W.cell? ⟨mb, off + k * 9, none⟩ = some (.int .i64 mk) ∧ W.cell? ⟨mb, off + k * 9 + 1, none⟩ = some (.int .i64 f) ∧ W.cell? ⟨mb, off + k * 9 + 2, none⟩ = some (.int .i64 o) ∧ W.cell? ⟨mb, off + k * 9 + 3, none⟩ = some (.int .i64 T) ∧ W.cell? ⟨mb, off + k * 9 + 4, none⟩ = some (.int .i64 I) ∧ W.cell? ⟨mb, off + k * 9 + 5, none⟩ = some (.int .i64 LT) ∧ W.cell? ⟨mb, off + k * 9 + 6, none⟩ = some (.int .i64 C) ∧ W.cell? ⟨mb, off + k * 9 + 7, none⟩ = some (.bool Y) ∧ W.cell? ⟨mb, off + k * 9 + 8, none⟩ = some (.slice am' L.length cm')) (first | exact ⟨zhc0, zhc1, zlc0, zlc1, zlc2, zm0, zm1, zm2, zm3, zm4, zm5, zm6, zm7, zm8⟩ | exact ⟨hc0, hc1, lc0, lc1, lc2, m0, m1, m2, m3, m4, m5, m6, m7, m8⟩ | exact ⟨(hfar _ _ hlt0).trans zhc0, (hfar _ _ hlt0).trans zhc1, (hfar _ _ hlt1).trans zlc0, (hfar _ _ hlt1).trans zlc1, (hfar _ _ hlt1).trans zlc2, (hfar _ _ hmlt).trans zm0, (hfar _ _ hmlt).trans zm1, (hfar _ _ hmlt).trans zm2, (hfar _ _ hmlt).trans zm3, (hfar _ _ hmlt).trans zm4, (hfar _ _ hmlt).trans zm5, (hfar _ _ hmlt).trans zm6, (hfar _ _ hmlt).trans zm7, (hfar _ _ hmlt).trans zm8⟩ | go_keep) ((go_at_call 17; refine (HGG.out _ (by first | exact hb.drew | exact (hb.alloc hb.size _).drew)).mono ?_; rintro e w5 ⟨rfl, hb5⟩; have hb6 : Below wr.heap.size wr w5 := (by first | exact (below0 wr).drew.trans (hb5.mono (below0 wr).drew.size) | exact (below1 wr _).drew.trans (hb5.mono (below1 wr _).drew.size)); have hfar : ∀ b o, b < wr.heap.size → (set2 w5 wr.heap.size (.int .i64 G1) (.int .i64 G2)).cell? ⟨b, o, none⟩ = w5.cell? ⟨b, o, none⟩ := (fun b o h => set2_cell_far (by omega) _ _); (try (have gq := blk_keep hb5 (blk_drew (blk_new wr (.cells #[.int .i64 0, .int .i64 0] 23))); obtain ⟨xq0, xq1, xqf0, xqf1, xqlt⟩ := box2 gq)); have zhc0 := ((bcell hb6).1 _ _ hlt0).trans hc0; have zhc1 := ((bcell hb6).1 _ _ hlt0).trans hc1; have zlc0 := ((bcell hb6).1 _ _ hlt1).trans lc0; have zlc1 := ((bcell hb6).1 _ _ hlt1).trans lc1; have zlc2 := ((bcell hb6).1 _ _ hlt1).trans lc2; have zm0 := ((bcell hb6).1 _ _ hmlt).trans m0; have zm1 := ((bcell hb6).1 _ _ hmlt).trans m1; have zm2 := ((bcell hb6).1 _ _ hmlt).trans m2; have zm3 := ((bcell hb6).1 _ _ hmlt).trans m3; have zm4 := ((bcell hb6).1 _ _ hmlt).trans m4; have zm5 := ((bcell hb6).1 _ _ hmlt).trans m5; have zm6 := ((bcell hb6).1 _ _ hmlt).trans m6; have zm7 := ((bcell hb6).1 _ _ hmlt).trans m7; have zm8 := ((bcell hb6).1 _ _ hmlt).trans m8))
        all_goals (go_wp2_with fail; go_meet)
        all_goals (first
          | exact ⟨w5.heap.size, rfl, rfl, hb6.size, blk_new _ _, hb6.alloc hb6.size _⟩
          | exact ⟨wr.heap.size, rfl, rfl, Nat.le_refl _, set2_blk (blk_keep hb5 (blk_drew (blk_new wr _))) _ _, set2_below hb6 (Nat.le_refl _) _ _⟩)
      case rest =>
        obtain ⟨X, rfl, rfl, hX, gX, hbx⟩ := hcut
        replace c0 := blk_keep hbx c0
        replace c1 := blk_keep hbx c1
        replace m1 := ((bcell hbx).1 _ _ hmlt).trans m1
        replace m3 := ((bcell hbx).1 _ _ hmlt).trans m3
        have hmlt2 := Nat.lt_of_lt_of_le hmlt hbx.size
        replace hb := hb.trans (hbx.mono hb.size)
        clear m0 m2 m4 m5 m6 m7 m8 hc0 hc1 hf0 hf1 lc0 lc1 lc2
        obtain ⟨hc0, hc1, hf0, hf1, hlt0⟩ := box2 c0
        obtain ⟨xc0, xc1, xf0, xf1, xlt⟩ := box2 gX
        have hw1 := hb.size
        go_upto_region 9 with fail
        go_cut [71] (fun c wx => c = .bool false ∧ wx = wc)
        case first =>
          obtain ⟨h1, h2, _, _⟩ := HK2.out
          by_cases e1 : t' < G1
          · have e2 : (G1 == t') = false := by simp; omega
            go_wp2_with fail
            go_meet
            exact ⟨congrArg Value.bool (decide_eq_false (by omega)), rfl⟩
          · obtain rfl : G1 = t' := by omega
            by_cases e2 : v' = 0
            · subst e2
              go_wp2_with fail
              go_meet
              exact ⟨rfl, rfl⟩
            · obtain rfl := h2 rfl e2
              go_wp2_with fail
              go_meet
              exact ⟨rfl, rfl⟩
        case rest =>
          obtain ⟨rfl, rfl⟩ := hcut
          have hmg := HK2.out.2.2.2 HMY.out
          have HMG : Hid (∀ W, Calls Try.prog 22 #[ballotV G1 G2] W fun e w' => e = .returned (.bool true) ∧ Below W.heap.size W w') := fun W => by have := mayV_any G1 G2 W; rwa [hmg] at this
          have HMG2 := Lib.hid hmg
          clear hmg
          go_upto_region 11 with fail
          go_cut [97] (fun c wx => c = .bool false ∧ Below wc.heap.size wc wx)
          case first =>
            cases G3 with
            | true =>
              obtain ⟨e1, e2⟩ := HK2.out.2.2.1 rfl
              subst e1 e2
              go_region_held3 (fun W => W.cell? ⟨X, 0, none⟩ = some (.int .i64 G1) ∧ W.cell? ⟨X, 1, none⟩ = some (.int .i64 G2) ∧ W.cell? ⟨mb, off + k * 9 + 1, none⟩ = some (.int .i64 G2) ∧ W.cell? ⟨mb, off + k * 9 + 3, none⟩ = some (.int .i64 G1)) (first | exact ⟨yc0, yc1, ym1, ym3⟩ | exact ⟨xc0, xc1, m1, m3⟩) ((go_at_call 22; refine (HMG.out _).mono ?_; rintro e w6 ⟨rfl, hb6⟩; have hb7 : Below wc.heap.size wc w6 := (by first | exact (below0 wc).drew.trans (hb6.mono (below0 wc).drew.size) | exact hb6); have yc0 := ((bcell hb7).1 _ _ xlt).trans xc0; have yc1 := ((bcell hb7).1 _ _ xlt).trans xc1; have ym1 := ((bcell hb7).1 _ _ hmlt2).trans m1; have ym3 := ((bcell hb7).1 _ _ hmlt2).trans m3))
              all_goals (go_wp2_with fail; go_meet)
              all_goals exact ⟨rfl, hb7⟩
            | false =>
              refine wp_region_held_drew (S := (fun W => W.cell? ⟨X, 0, none⟩ = some (.int .i64 G1) ∧ W.cell? ⟨X, 1, none⟩ = some (.int .i64 G2))) (by kernel_rfl) ?_ (fun hHeld => ?_)
              · ((try dsimp only); first | exact ⟨yc0, yc1⟩ | exact ⟨xc0, xc1⟩)
              refine wpAnyH_take (i := 0) (oi := { dst := some 72, op := Op.move (Operand.tmp 11), type := 4, pos := "law.go:44", after := #[], guard := none }) (v := ?_) rfl (by kernel_rfl) (by kernel_rfl) (by kernel_rfl) (fun _ _ _ h => h) (Or.inl ⟨by rfl, ?_⟩) (by assumption) ?_
              rotate_left 1
              · ((intro w hSw); (try dsimp only at hSw); go_simp; try (with_reducible rfl))
              try simp only [Act.put, List.setIfInBounds_toArray, List.set_cons_zero, List.set_cons_succ]
              refine wpAnyH_take (i := 1) (oi := { dst := some 73, op := Op.move (Operand.tmp 72), type := 4, pos := "law.go:44", after := #[{ on := 0, ground := Ground.data }], guard := none }) (v := ?_) rfl (by kernel_rfl) (by kernel_rfl) (by kernel_rfl) (fun _ _ _ h => h) (Or.inl ⟨by rfl, ?_⟩) (by assumption) ?_
              rotate_left 1
              · ((intro w hSw); (try dsimp only at hSw); go_simp; try (with_reducible rfl))
              try simp only [Act.put, List.setIfInBounds_toArray, List.set_cons_zero, List.set_cons_succ]
              refine wpAnyH_take (i := 2) (oi := { dst := some 74, op := Op.fieldAddr 23 (Operand.tmp 10) 1, type := 0, pos := "law.go:44", after := #[{ on := 1, ground := Ground.guard }], guard := some (1, true) }) (v := undef) rfl (by kernel_rfl) (by kernel_rfl) (by kernel_rfl) (fun _ _ _ h => h) (Or.inr ⟨by rfl, rfl⟩) (by assumption) ?_
              try simp only [Act.put, List.setIfInBounds_toArray, List.set_cons_zero, List.set_cons_succ]
              refine wpAnyH_take (i := 3) (oi := { dst := some 75, op := Op.load 3 (Operand.tmp 74), type := 3, pos := "law.go:44", after := #[{ on := 2, ground := Ground.data }, { on := 1, ground := Ground.guard }], guard := some (1, true) }) (v := undef) rfl (by kernel_rfl) (by kernel_rfl) (by kernel_rfl) (fun _ _ _ h => h) (Or.inr ⟨by rfl, rfl⟩) (by assumption) ?_
              try simp only [Act.put, List.setIfInBounds_toArray, List.set_cons_zero, List.set_cons_succ]
              refine wpAnyH_take (i := 4) (oi := { dst := some 76, op := Op.move (Operand.tmp 2), type := 40, pos := "law.go:44", after := #[{ on := 1, ground := Ground.guard }], guard := some (1, true) }) (v := undef) rfl (by kernel_rfl) (by kernel_rfl) (by kernel_rfl) (fun _ _ _ h => h) (Or.inr ⟨by rfl, rfl⟩) (by assumption) ?_
              try simp only [Act.put, List.setIfInBounds_toArray, List.set_cons_zero, List.set_cons_succ]
              refine wpAnyH_take (i := 5) (oi := { dst := some 77, op := Op.move (Operand.tmp 9), type := 3, pos := "law.go:44", after := #[{ on := 1, ground := Ground.guard }], guard := some (1, true) }) (v := undef) rfl (by kernel_rfl) (by kernel_rfl) (by kernel_rfl) (fun _ _ _ h => h) (Or.inr ⟨by rfl, rfl⟩) (by assumption) ?_
              try simp only [Act.put, List.setIfInBounds_toArray, List.set_cons_zero, List.set_cons_succ]
              refine wpAnyH_take (i := 6) (oi := { dst := some 78, op := Op.indexAddr 40 (Operand.tmp 76) (Operand.tmp 77), type := 0, pos := "law.go:44", after := #[{ on := 4, ground := Ground.data }, { on := 5, ground := Ground.data }, { on := 1, ground := Ground.guard }], guard := some (1, true) }) (v := undef) rfl (by kernel_rfl) (by kernel_rfl) (by kernel_rfl) (fun _ _ _ h => h) (Or.inr ⟨by rfl, rfl⟩) (by assumption) ?_
              try simp only [Act.put, List.setIfInBounds_toArray, List.set_cons_zero, List.set_cons_succ]
              refine wpAnyH_take (i := 7) (oi := { dst := some 79, op := Op.fieldAddr 28 (Operand.tmp 78) 1, type := 0, pos := "law.go:44", after := #[{ on := 6, ground := Ground.data }, { on := 1, ground := Ground.guard }], guard := some (1, true) }) (v := undef) rfl (by kernel_rfl) (by kernel_rfl) (by kernel_rfl) (fun _ _ _ h => h) (Or.inr ⟨by rfl, rfl⟩) (by assumption) ?_
              try simp only [Act.put, List.setIfInBounds_toArray, List.set_cons_zero, List.set_cons_succ]
              refine wpAnyH_take (i := 8) (oi := { dst := some 80, op := Op.load 3 (Operand.tmp 79), type := 3, pos := "law.go:44", after := #[{ on := 7, ground := Ground.data }, { on := 1, ground := Ground.guard }], guard := some (1, true) }) (v := undef) rfl (by kernel_rfl) (by kernel_rfl) (by kernel_rfl) (fun _ _ _ h => h) (Or.inr ⟨by rfl, rfl⟩) (by assumption) ?_
              try simp only [Act.put, List.setIfInBounds_toArray, List.set_cons_zero, List.set_cons_succ]
              refine wpAnyH_take (i := 9) (oi := { dst := some 81, op := Op.binOp BinOp.neq 3 (Operand.tmp 75) (Operand.tmp 80) 3, type := 4, pos := "law.go:44", after := #[{ on := 3, ground := Ground.data }, { on := 8, ground := Ground.data }, { on := 1, ground := Ground.guard }], guard := some (1, true) }) (v := undef) rfl (by kernel_rfl) (by kernel_rfl) (by kernel_rfl) (fun _ _ _ h => h) (Or.inr ⟨by rfl, rfl⟩) (by assumption) ?_
              try simp only [Act.put, List.setIfInBounds_toArray, List.set_cons_zero, List.set_cons_succ]
              refine wpAnyH_take (i := 10) (oi := { dst := some 82, op := Op.move (Operand.tmp 81), type := 4, pos := "law.go:44", after := #[{ on := 9, ground := Ground.data }, { on := 1, ground := Ground.chain }, { on := 1, ground := Ground.guard }], guard := some (1, true) }) (v := undef) rfl (by kernel_rfl) (by kernel_rfl) (by kernel_rfl) (fun _ _ _ h => h) (Or.inr ⟨by rfl, rfl⟩) (by assumption) ?_
              try simp only [Act.put, List.setIfInBounds_toArray, List.set_cons_zero, List.set_cons_succ]
              refine wpAnyH_take (i := 11) (oi := { dst := some 83, op := Op.fieldAddr 23 (Operand.tmp 10) 0, type := 0, pos := "law.go:44", after := #[{ on := 10, ground := Ground.guard }], guard := some (10, false) }) (v := undef) rfl (by kernel_rfl) (by kernel_rfl) (by kernel_rfl) (fun _ _ _ h => h) (Or.inr ⟨by rfl, rfl⟩) (by assumption) ?_
              try simp only [Act.put, List.setIfInBounds_toArray, List.set_cons_zero, List.set_cons_succ]
              refine wpAnyH_take (i := 12) (oi := { dst := some 84, op := Op.load 3 (Operand.tmp 83), type := 3, pos := "law.go:44", after := #[{ on := 11, ground := Ground.data }, { on := 10, ground := Ground.guard }], guard := some (10, false) }) (v := undef) rfl (by kernel_rfl) (by kernel_rfl) (by kernel_rfl) (fun _ _ _ h => h) (Or.inr ⟨by rfl, rfl⟩) (by assumption) ?_
              try simp only [Act.put, List.setIfInBounds_toArray, List.set_cons_zero, List.set_cons_succ]
              refine wpAnyH_take (i := 13) (oi := { dst := some 85, op := Op.move (Operand.tmp 2), type := 40, pos := "law.go:44", after := #[{ on := 10, ground := Ground.guard }], guard := some (10, false) }) (v := undef) rfl (by kernel_rfl) (by kernel_rfl) (by kernel_rfl) (fun _ _ _ h => h) (Or.inr ⟨by rfl, rfl⟩) (by assumption) ?_
              try simp only [Act.put, List.setIfInBounds_toArray, List.set_cons_zero, List.set_cons_succ]
              refine wpAnyH_take (i := 14) (oi := { dst := some 86, op := Op.move (Operand.tmp 9), type := 3, pos := "law.go:44", after := #[{ on := 10, ground := Ground.guard }], guard := some (10, false) }) (v := undef) rfl (by kernel_rfl) (by kernel_rfl) (by kernel_rfl) (fun _ _ _ h => h) (Or.inr ⟨by rfl, rfl⟩) (by assumption) ?_
              try simp only [Act.put, List.setIfInBounds_toArray, List.set_cons_zero, List.set_cons_succ]
              refine wpAnyH_take (i := 15) (oi := { dst := some 87, op := Op.indexAddr 40 (Operand.tmp 85) (Operand.tmp 86), type := 0, pos := "law.go:44", after := #[{ on := 13, ground := Ground.data }, { on := 14, ground := Ground.data }, { on := 10, ground := Ground.guard }], guard := some (10, false) }) (v := undef) rfl (by kernel_rfl) (by kernel_rfl) (by kernel_rfl) (fun _ _ _ h => h) (Or.inr ⟨by rfl, rfl⟩) (by assumption) ?_
              try simp only [Act.put, List.setIfInBounds_toArray, List.set_cons_zero, List.set_cons_succ]
              refine wpAnyH_take (i := 16) (oi := { dst := some 88, op := Op.fieldAddr 28 (Operand.tmp 87) 3, type := 0, pos := "law.go:44", after := #[{ on := 15, ground := Ground.data }, { on := 10, ground := Ground.guard }], guard := some (10, false) }) (v := undef) rfl (by kernel_rfl) (by kernel_rfl) (by kernel_rfl) (fun _ _ _ h => h) (Or.inr ⟨by rfl, rfl⟩) (by assumption) ?_
              try simp only [Act.put, List.setIfInBounds_toArray, List.set_cons_zero, List.set_cons_succ]
              refine wpAnyH_take (i := 17) (oi := { dst := some 89, op := Op.load 3 (Operand.tmp 88), type := 3, pos := "law.go:44", after := #[{ on := 16, ground := Ground.data }, { on := 10, ground := Ground.guard }], guard := some (10, false) }) (v := undef) rfl (by kernel_rfl) (by kernel_rfl) (by kernel_rfl) (fun _ _ _ h => h) (Or.inr ⟨by rfl, rfl⟩) (by assumption) ?_
              try simp only [Act.put, List.setIfInBounds_toArray, List.set_cons_zero, List.set_cons_succ]
              refine wpAnyH_take (i := 18) (oi := { dst := some 90, op := Op.binOp BinOp.neq 3 (Operand.tmp 84) (Operand.tmp 89) 3, type := 4, pos := "law.go:44", after := #[{ on := 12, ground := Ground.data }, { on := 17, ground := Ground.data }, { on := 10, ground := Ground.guard }], guard := some (10, false) }) (v := undef) rfl (by kernel_rfl) (by kernel_rfl) (by kernel_rfl) (fun _ _ _ h => h) (Or.inr ⟨by rfl, rfl⟩) (by assumption) ?_
              try simp only [Act.put, List.setIfInBounds_toArray, List.set_cons_zero, List.set_cons_succ]
              refine wpAnyH_take (i := 19) (oi := { dst := some 91, op := Op.pick (Operand.tmp 82) (Operand.const (Value.bool true)) (Operand.tmp 90), type := 4, pos := "law.go:44", after := #[{ on := 10, ground := Ground.data }, { on := 18, ground := Ground.data }, { on := 1, ground := Ground.guard }], guard := some (1, true) }) (v := undef) rfl (by kernel_rfl) (by kernel_rfl) (by kernel_rfl) (fun _ _ _ h => h) (Or.inr ⟨by rfl, rfl⟩) (by assumption) ?_
              try simp only [Act.put, List.setIfInBounds_toArray, List.set_cons_zero, List.set_cons_succ]
              refine wpAnyH_take (i := 20) (oi := { dst := some 92, op := Op.pick (Operand.tmp 73) (Operand.tmp 91) (Operand.const (Value.bool false)), type := 4, pos := "law.go:44", after := #[{ on := 1, ground := Ground.data }, { on := 19, ground := Ground.data }], guard := none }) (v := ?_) rfl (by kernel_rfl) (by kernel_rfl) (by kernel_rfl) (fun _ _ _ h => h) (Or.inl ⟨by rfl, ?_⟩) (by assumption) ?_
              rotate_left 1
              · ((intro w hSw); (try dsimp only at hSw); go_simp; try (with_reducible rfl))
              try simp only [Act.put, List.setIfInBounds_toArray, List.set_cons_zero, List.set_cons_succ]
              refine wpAnyH_take (i := 21) (oi := { dst := some 93, op := Op.move (Operand.tmp 92), type := 4, pos := "law.go:44", after := #[{ on := 20, ground := Ground.data }, { on := 10, ground := Ground.chain }], guard := none }) (v := ?_) rfl (by kernel_rfl) (by kernel_rfl) (by kernel_rfl) (fun _ _ _ h => h) (Or.inl ⟨by rfl, ?_⟩) (by assumption) ?_
              rotate_left 1
              · ((intro w hSw); (try dsimp only at hSw); go_simp; try (with_reducible rfl))
              try simp only [Act.put, List.setIfInBounds_toArray, List.set_cons_zero, List.set_cons_succ]
              refine wpAnyH_take (i := 22) (oi := { dst := some 94, op := Op.load 23 (Operand.tmp 10), type := 23, pos := "law.go:44", after := #[{ on := 21, ground := Ground.guard }], guard := some (21, false) }) (v := ?_) rfl (by kernel_rfl) (by kernel_rfl) (by kernel_rfl) (fun _ _ _ h => h) (Or.inl ⟨by rfl, ?_⟩) (by assumption) ?_
              rotate_left 1
              · ((intro w hSw); (try dsimp only at hSw); go_simp; try (with_reducible rfl))
              try simp only [Act.put, List.setIfInBounds_toArray, List.set_cons_zero, List.set_cons_succ]
              refine wpAnyH_ready (rs := [23]) (by kernel_rfl) (by simp) ?_
              refine AllReadyH.cons (o := { dst := some 95, op := Op.call { callee := Callee.value (Operand.func 22), args := #[Operand.tmp 94], argTypes := #[23] }, type := 4, pos := "law.go:44", after := #[{ on := 22, ground := Ground.data }, { on := 21, ground := Ground.chain }, { on := 21, ground := Ground.guard }], guard := some (21, false) }) rfl (fun K hK => ?_) ?_
              rotate_left 1
              · exact AllReadyH.nil
              go_simp
              (go_at_call 22; refine (HMG.out _).mono ?_; rintro e w6 ⟨rfl, hb6⟩; have hb7 : Below wc.heap.size wc w6 := (by first | exact (below0 wc).drew.trans (hb6.mono (below0 wc).drew.size) | exact hb6); have yc0 := ((bcell hb7).1 _ _ xlt).trans xc0; have yc1 := ((bcell hb7).1 _ _ xlt).trans xc1; have ym1 := ((bcell hb7).1 _ _ hmlt2).trans m1; have ym3 := ((bcell hb7).1 _ _ hmlt2).trans m3)
              refine hK.out _ _ ?_ (fun hHeld => ?_)
              · ((try dsimp only); first | exact ⟨yc0, yc1⟩ | exact ⟨xc0, xc1⟩)
              clear hK K
              try simp only [Act.put, List.setIfInBounds_toArray, List.set_cons_zero, List.set_cons_succ]
              refine wpAnyH_take (i := 24) (oi := { dst := some 96, op := Op.unOp UnOp.not 4 (Operand.tmp 95), type := 4, pos := "law.go:44", after := #[{ on := 23, ground := Ground.data }, { on := 21, ground := Ground.guard }], guard := some (21, false) }) (v := ?_) rfl (by kernel_rfl) (by kernel_rfl) (by kernel_rfl) (fun _ _ _ h => h) (Or.inl ⟨by rfl, ?_⟩) (by assumption) ?_
              rotate_left 1
              · ((intro w hSw); (try dsimp only at hSw); go_simp; try (with_reducible rfl))
              try simp only [Act.put, List.setIfInBounds_toArray, List.set_cons_zero, List.set_cons_succ]
              refine wpAnyH_take (i := 25) (oi := { dst := some 97, op := Op.pick (Operand.tmp 93) (Operand.const (Value.bool true)) (Operand.tmp 96), type := 4, pos := "law.go:44", after := #[{ on := 21, ground := Ground.data }, { on := 24, ground := Ground.data }], guard := none }) (v := ?_) rfl (by kernel_rfl) (by kernel_rfl) (by kernel_rfl) (fun _ _ _ h => h) (Or.inl ⟨by rfl, ?_⟩) (by assumption) ?_
              rotate_left 1
              · ((intro w hSw); (try dsimp only at hSw); go_simp; try (with_reducible rfl))
              try simp only [Act.put, List.setIfInBounds_toArray, List.set_cons_zero, List.set_cons_succ]
              refine wpAnyH_done (by kernel_rfl) ?_ _
              go_wp2_with fail
              go_meet
              exact ⟨rfl, hb7⟩
          case rest =>
            obtain ⟨rfl, hbz⟩ := hcut
            replace c0 := blk_keep hbz c0
            replace c1 := blk_keep hbz c1
            replace gX := blk_keep hbz gX
            replace hb := hb.trans (hbz.mono hb.size)
            clear hc0 hc1 hf0 hf1 xc0 xc1 xf0 xf1 m1 m3
            obtain ⟨hc0, hc1, hf0, hf1, hlt0⟩ := box2 c0
            obtain ⟨xc0, xc1, xf0, xf1, xlt⟩ := box2 gX
            go_wp2
            go_roundw
            case rel => exact ⟨k + 1, G1, G2, by omega, by go_num, HMG2, set2_blk c0 _ _, set2_far c1 (by omega) _ _, set2_below hb (Nat.le_refl _) _ _⟩
            case measure => simp [intOf]; omega
    · go_wp2
      go_ret
      exact ⟨rfl, hb⟩
end Go.Proofs.Ytifbcdjabdfeeaa
