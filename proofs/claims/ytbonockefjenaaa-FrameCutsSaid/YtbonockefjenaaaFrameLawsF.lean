/-
  Layer 3's laws, sixth part: frames that were cut.
-/
import Derived.Test.YtbonockefjenaaaFrameLawsE
namespace Go.Proofs.Ytbonockefjenaaa
open Go.RowKit
/-- How many frames are whole in the first c bytes, and how many bytes these have. -/
def CutAt (l : List Fr) (k c W U : Nat) : Prop := W ≤ k ∧ U = (puts (l.take W)).length ∧ U ≤ c ∧ (W < k → c < (puts (l.take (W + 1))).length)
theorem CutAt.zero {l : List Fr} {c : Nat} : CutAt l 0 c 0 0 := ⟨Nat.le_refl _, by simp [puts], Nat.zero_le _, fun h => by omega⟩
theorem CutAt.whole {l : List Fr} {k c W U : Nat} {B : List UInt8} (hB : puts (l.take (k + 1)) = B) (hc : B.length ≤ c) (_ : CutAt l k c W U) : CutAt l (k + 1) c (k + 1) B.length := ⟨Nat.le_refl _, by rw [hB], hc, fun h => by omega⟩
theorem CutAt.more {l : List Fr} {k c W U : Nat} {B : List UInt8} (hB : puts (l.take (k + 1)) = B) (hc : c < B.length) (h : CutAt l k c W U) : CutAt l (k + 1) c W U := by
  refine ⟨by have := h.1; omega, h.2.1, h.2.2.1, fun hw => ?_⟩
  by_cases hk : W < k
  · exact h.2.2.2 hk
  · have : W = k := by have := h.1; omega
    rw [this, hB]; exact hc
theorem run_cut {l : List Fr} {k c W U : Nat} {B : List UInt8} (hk : k = l.length) (ho : ∀ g ∈ l.take k, putE g = 0) (hB : puts (l.take k) = B) (hc : c ≤ B.length) (h : CutAt l k c W U) :
    ∃ E, run (B.take c) = (l.take W, U, E) ∧ (E = 3 ∧ U < c ∨ E = 0 ∧ U = c) := by
  replace ho := okay_all hk ho
  replace hB := puts_all hk hB
  subst hk
  obtain ⟨h1, h2, h3, h4⟩ := h
  have hs : puts l = puts (l.take W) ++ puts (l.drop W) := by
    unfold puts
    rw [← List.flatMap_append, List.take_append_drop]
  have hol : ∀ g ∈ l.take W, putE g = 0 := fun g hg => ho g (List.mem_of_mem_take hg)
  have htk : B.take c = puts (l.take W) ++ (puts (l.drop W)).take (c - U) := by
    rw [← hB, hs, List.take_append, List.take_of_length_le (by omega), ← h2]
  by_cases hcU : c = U
  · refine ⟨0, ?_, .inr ⟨rfl, hcU.symm⟩⟩
    rw [htk, hcU, Nat.sub_self, List.take_zero, run_puts _ hol [], run_nil (bs := []) rfl, h2]
    simp
  · have hW : W < l.length := by
      rcases Nat.lt_or_ge W l.length with h | h
      · exact h
      · rw [List.take_of_length_le h, hB] at h2; omega
    have h5 := h4 hW
    have hd : puts (l.drop W) = putB (l[W]'hW) ++ puts (l.drop (W + 1)) := by rw [List.drop_eq_getElem_cons hW, puts_cons]
    have h6 : puts (l.take (W + 1)) = puts (l.take W) ++ putB (l[W]'hW) := puts_snoc (List.getElem?_eq_getElem hW)
    rw [h6, List.length_append] at h5
    have h7 : (puts (l.drop W)).take (c - U) = (putB (l[W]'hW)).take (c - U) := by
      rw [hd, List.take_append, show c - U - (putB (l[W]'hW)).length = 0 by omega, List.take_zero, List.append_nil]
    have h8 := cut_more (ho _ (List.getElem_mem hW)) (c - U) (by omega) (by omega)
    refine ⟨3, ?_, .inl ⟨rfl, by omega⟩⟩
    rw [htk, h7, run_puts _ hol, run_err (by rw [List.length_take]; omega) (by rw [h8]; decide), h8, h2]
    simp
theorem FramesIn.takeN {w : World} {a : Option Addr} {cap : Nat} {l : List Fr} (h : FramesIn w a cap l) (k : Nat) : FramesIn w a cap (l.take k) := by
  obtain ⟨⟨xs, hr, hx⟩, hc, hn⟩ := h
  exact ⟨⟨_, hr.take (k * 2), hx.take k⟩, by rw [List.length_take]; omega, fun h => by rw [List.length_take, hn h]; omega⟩
set_option maxRecDepth 100000 in
set_option maxHeartbeats 3200000 in
theorem frameCuts_walk (a : Option Addr) (cap : Nat) (l : List Fr) (cut : Int) (hcw : (Lit.int .i64 cut).wf = true) (w : World) (hl : FramesIn w a cap l) :
    Calls Try.prog 8 #[.slice a l.length cap, .int .i64 cut] w fun e w' => e = .returned (.bool true) ∧ Below w.heap.size w w' := by
  by_cases h1 : (10 : Int) < (l.length : Int)
  · clear hl
    go_enter Try.func8, Try.ntmps8
    go_wp2_with (go_at_call 10; refine (frameAwake_any _).mono ?_; rintro e w1 ⟨rfl, hb1⟩)
    go_ret
    exact ⟨rfl, hb1⟩
  by_cases h3 : cut < 0
  · clear hl
    go_enter Try.func8, Try.ntmps8
    go_wp2_with (go_at_call 10; refine (frameAwake_any _).mono ?_; rintro e w1 ⟨rfl, hb1⟩)
    go_ret
    exact ⟨rfl, hb1⟩
  obtain ⟨c, rfl⟩ : ∃ c : Nat, cut = (c : Int) := ⟨cut.toNat, by omega⟩
  clear hcw h3
  have hlc : l.length ≤ cap := hl.cap
  go_enter Try.func8, Try.ntmps8
  go_wp2_with (go_at_call 10; refine (frameAwake_any _).mono ?_; rintro e w1 ⟨rfl, hd1⟩)
  go_loopw [6, 7, 8, 9] (fun v s t i wr => ∃ (k W U : Nat) (B : List UInt8) (aL : Option Addr) (cL : Nat), k ≤ l.length ∧ W ≤ k ∧ s = .int .i64 W ∧ t = .int .i64 U ∧ i = .int .i64 k ∧ v = .slice aL B.length cL ∧ B.length ≤ k * 4104 ∧ Hid (puts (l.take k) = B) ∧ Hid (∀ g ∈ l.take k, putE g = 0) ∧ Hid (CutAt l k c W U) ∧ wr.ownsRow w.heap.size 5 1 (.slice aL B.length cL) B.length (B.map byteV) ∧ Below w.heap.size w wr) (fun _ _ _ i _ => l.length - (intOf i).toNat)
  case atStart => exact ⟨0, 0, 0, [], none, 0, by omega, by omega, rfl, rfl, rfl, rfl, by simp, by rw [Hid]; rfl, by intro g hg; simp at hg, .zero, World.ownsRow_nil _ _ _ _, hd1⟩
  case round =>
    obtain ⟨k, W, U, B, aL, cL, hk, hWk, rfl, rfl, rfl, rfl, hBl, HP, HO, HCUT, hown, hbw⟩ := hrel
    by_cases hlt : k < l.length
    · obtain ⟨b, off, A, cD, hab, hblt, hc0, hc1, hA, hAn, hAc⟩ := (hl.below hbw).atB hlt
      subst hab
      have h1' : Hid (l[k]? = some (l[k]'hlt)) := List.getElem?_eq_getElem hlt
      generalize (l[k]'hlt) = f at hc0 hc1 hA hAn hAc h1'
      obtain ⟨K, D⟩ := f
      have hk0 : (0 : Int) ≤ (k : Int) := by omega
      have hk1 : (k : Int) < (l.length : Int) := by omega
      by_cases h5 : (5000 : Int) < (D.length : Int)
      · clear hl hAn hAc hA
        go_wp2
        go_ret
        exact ⟨rfl, hbw⟩
      have HPut : Hid (∀ W, CellsB W A D → Calls Try.prog 11 #[.agg #[.int .i64 K, .slice A D.length cD]] W (RetRowE 5 1 (putB (K, D)).length ((putB (K, D)).map byteV) (putE (K, D)) W)) := fun W h => put_any K A cD D W h hAn
      by_cases he : putE (K, D) = 0
      · have hXl : (putB (K, D)).length ≤ 4104 := by have := putB_length he; have := (putE_zero he).2.2; omega
        have HE := Lib.hid he
        rw [he] at HPut
        generalize hX : putB (K, D) = X at HPut hXl
        have HX := Lib.hid hX
        obtain ⟨Y, hY⟩ : ∃ Y, Y = B ++ X := ⟨_, rfl⟩
        have hYl : B.length + X.length = Y.length := by rw [hY]; simp
        have HYM : Hid (B.map byteV ++ X.map byteV = Y.map byteV) := by rw [Hid, hY]; simp
        have hpg := puts_goes h1'.out HP.out HX.out
        rw [← hY] at hpg
        have HP6 := Lib.hid hpg
        have HO6 := Lib.hid (okay_snoc h1'.out HE.out HO.out)
        have hBl6 : Y.length ≤ (k + 1) * 4104 := by rw [← hYl]; omega
        have HYL := Lib.hid hYl
        clear hX he hY hpg hYl
        by_cases h6 : Y.length ≤ c
        · have h6i : (Y.length : Int) ≤ (c : Int) := by omega
          have HC6 := Lib.hid (CutAt.whole HP6.out h6 HCUT.out)
          go_wp2_with (first
            | (go_at_call 11; refine (HPut.out _ hA).mono ?_; rintro e w3 ⟨a3, c3, rfl, hown3, hd3⟩; replace hc0 := ((bcell hd3).1 _ _ hblt).trans hc0; replace hc1 := ((bcell hd3).1 _ _ hblt).trans hc1; have hb3 := bt hbw hd3)
            | (at_builtin; refine wpList_append_row rfl (.tmp 52) (.tmp 53) rfl elemB w.heap.size (.slice aL B.length cL) B.length (B.map byteV) (by rfl) (own_below hown hd3) a3 X.length c3 (X.map byteV) (by rfl) (by simp) (RowAt.of_own hown3) (byteV_one _) (by unfold maxLen; omega) (by omega) hb3.size (own_none hown3) ?_; intro a9 c9 w9 hown9 hg9 hat9; have hb9 : Below w.heap.size w w9 := Below.appended hb3 (own_below hown hd3) hg9 hb3.size (Nat.le_refl _); rw [HYL.out, HYM.out] at hown9; rw [HYL.out]))
          go_roundw
          case rel => exact ⟨k + 1, k + 1, Y.length, Y, a9, c9, by omega, by omega, by go_num, by go_num, by go_num, rfl, hBl6, HP6, HO6, HC6, hown9, hb9⟩
          case measure => simp [intOf]; omega
        · have h6i : (c : Int) < (Y.length : Int) := by omega
          have HC6 := Lib.hid (CutAt.more HP6.out (by omega) HCUT.out)
          go_wp2_with (first
            | (go_at_call 11; refine (HPut.out _ hA).mono ?_; rintro e w3 ⟨a3, c3, rfl, hown3, hd3⟩; replace hc0 := ((bcell hd3).1 _ _ hblt).trans hc0; replace hc1 := ((bcell hd3).1 _ _ hblt).trans hc1; have hb3 := bt hbw hd3)
            | (at_builtin; refine wpList_append_row rfl (.tmp 52) (.tmp 53) rfl elemB w.heap.size (.slice aL B.length cL) B.length (B.map byteV) (by rfl) (own_below hown hd3) a3 X.length c3 (X.map byteV) (by rfl) (by simp) (RowAt.of_own hown3) (byteV_one _) (by unfold maxLen; omega) (by omega) hb3.size (own_none hown3) ?_; intro a9 c9 w9 hown9 hg9 hat9; have hb9 : Below w.heap.size w w9 := Below.appended hb3 (own_below hown hd3) hg9 hb3.size (Nat.le_refl _); rw [HYL.out, HYM.out] at hown9; rw [HYL.out]))
          go_roundw
          case rel => exact ⟨k + 1, W, U, Y, a9, c9, by omega, by omega, rfl, rfl, by go_num, rfl, hBl6, HP6, HO6, HC6, hown9, hb9⟩
          case measure => simp [intOf]; omega
      · have ht : (putE (K, D) != 0) = true := by simpa using he
        generalize putE (K, D) = E at HPut ht
        clear hl
        go_wp2_with (go_at_call 11; refine (HPut.out _ hA).mono ?_; rintro e w3 ⟨a3, c3, rfl, hown3, hd3⟩)
        go_ret
        exact ⟨rfl, bt hbw hd3⟩
    · have hek : k = l.length := by omega
      by_cases hcB : B.length < c
      · have hcBi : (B.length : Int) < (c : Int) := by omega
        clear hek
        go_wp2
        go_ret
        exact ⟨rfl, hbw⟩
      · have hcBi : (c : Int) ≤ (B.length : Int) := by omega
        obtain ⟨E, hrun, hE⟩ := run_cut hek HO.out HP.out (by omega) HCUT.out
        have hcl : c ≤ cL := Nat.le_trans (by omega) (own_le hown)
        have hs1 := fun W => slice_to aL B.length cL c hcl W
        have hs2 := fun V => slice_toS elemF a l.length cap W (by omega) V
        have hW0 : (0 : Int) ≤ (W : Int) := by omega
        have hW1 : (W : Int) ≤ (cap : Int) := by omega
        have hc0 : (0 : Int) ≤ (c : Int) := by omega
        have hc1 : (c : Int) ≤ (cL : Int) := by omega
        have hlW : Hid ((l.take W).length = W) := by rw [Hid, List.length_take]; omega
        have hlc : Hid ((B.take c).length = c) := by rw [Hid, List.length_take]; omega
        obtain ⟨LW, hLW⟩ : ∃ LW, LW = l.take W := ⟨_, rfl⟩
        have HS : Hid (∀ V A c, FramesIn V A c LW → FramesIn V a cap l → Calls Try.prog 17 #[.slice A LW.length c, .slice a W cap] V fun e w' => e = .returned (.bool true) ∧ Below V.heap.size V w') := fun V A c h1 h2 => by
          have := same_any A c LW a cap LW V h1 (hLW ▸ h2.takeN W) (by rw [hLW, hlW.out]; omega)
          rw [hLW, hlW.out] at this ⊢
          simpa using this
        have HRUN : Hid (∀ V, CellsB V aL B → Calls Try.prog 15 #[.slice aL c cL] V (RetRun (LW, U, E) V)) := fun V h => by
          have := run_any aL cL (B.take c) V (h.take c) (by rw [hlc.out]; exact hcl) (by rw [hlc.out]; omega)
          rwa [hlc.out, hrun, ← hLW] at this
        clear hek hrun hlc hLW hlW
        rcases hE with ⟨rfl, hu⟩ | ⟨rfl, hu⟩
        · have hui : (U : Int) < (c : Int) := by omega
          clear hu
          go_wp2_with (first
            | (go_at_call 15; refine (HRUN.out wr (RowAt.of_own hown)).mono ?_; rintro e w8 ⟨a8, c8, rfl, hf8, hd8⟩; have hb8 := bt hbw hd8)
            | (go_at_call 17; refine (HS.out w8 a8 c8 hf8 (hl.below hb8)).mono ?_; rintro e w9 ⟨rfl, hd9⟩; have hb9 := bt hb8 hd9))
          go_ret
          exact ⟨rfl, hb9⟩
        · subst hu
          go_wp2_with (first
            | (go_at_call 15; refine (HRUN.out wr (RowAt.of_own hown)).mono ?_; rintro e w8 ⟨a8, c8, rfl, hf8, hd8⟩; have hb8 := bt hbw hd8)
            | (go_at_call 17; refine (HS.out w8 a8 c8 hf8 (hl.below hb8)).mono ?_; rintro e w9 ⟨rfl, hd9⟩; have hb9 := bt hb8 hd9))
          go_ret
          exact ⟨rfl, hb9⟩
end Go.Proofs.Ytbonockefjenaaa
