/-
  Layer 3's laws, fourth part: frames are run up to the first bytes that are none.
-/
import Derived.Test.YtbonockefjenaaaFrameLawsC
import Derived.Test.YtbonockefjenaaaOpenFrames
namespace Go.Proofs.Ytbonockefjenaaa
open Go.RowKit
theorem FramesIn.atB {w : World} {a : Option Addr} {cap : Nat} {fs : List Fr} (h : FramesIn w a cap fs) {i : Nat} (hi : i < fs.length) :
    ∃ b off A c, a = some ⟨b, off, none⟩ ∧ b < w.heap.size ∧ w.cell? ⟨b, off + i * 2, none⟩ = some (.int .i64 (fs[i]'hi).1) ∧ w.cell? ⟨b, off + i * 2 + 1, none⟩ = some (.slice A (fs[i]'hi).2.length c) ∧ CellsB w A (fs[i]'hi).2 ∧ (A = none → (fs[i]'hi).2.length = 0) ∧ (fs[i]'hi).2.length ≤ c := by
  obtain ⟨⟨xs, hr, hf⟩, _, _⟩ := h
  obtain ⟨x, y, hx, hy, rfl, A, c, rfl, h1, h2, h3, _⟩ := hf.at (List.getElem?_eq_getElem hi)
  obtain ⟨b, off, ha, hlt, hc⟩ := hr.at hx
  obtain ⟨b', off', ha', _, hc'⟩ := hr.at hy
  rw [ha] at ha'
  cases ha'
  exact ⟨b, off, A, c, ha, hlt, hc, hc', h3, h1, h2⟩
theorem puts_snoc {l : List Fr} {k : Nat} {f : Fr} (h : l[k]? = some f) : puts (l.take (k + 1)) = puts (l.take k) ++ putB f := by
  rw [List.take_add_one, h]
  simp [puts]
theorem puts_goes {l : List Fr} {k : Nat} {f : Fr} {B X : List UInt8} (h : l[k]? = some f) (hB : puts (l.take k) = B) (hX : putB f = X) : puts (l.take (k + 1)) = B ++ X := by rw [puts_snoc h, hB, hX]
theorem puts_all {l : List Fr} {k : Nat} {B : List UInt8} (hk : k = l.length) (hB : puts (l.take k) = B) : puts l = B := by rw [hk, List.take_length] at hB; exact hB
theorem okay_snoc {l : List Fr} {k : Nat} {f : Fr} (h : l[k]? = some f) (he : putE f = 0) (hl : ∀ g ∈ l.take k, putE g = 0) : ∀ g ∈ l.take (k + 1), putE g = 0 := by
  rw [List.take_add_one, h]
  intro g hg
  simp at hg
  rcases hg with hg | rfl
  · exact hl g hg
  · exact he
theorem okay_all {l : List Fr} {k : Nat} (hk : k = l.length) (hl : ∀ g ∈ l.take k, putE g = 0) : ∀ g ∈ l, putE g = 0 := by rw [hk, List.take_length] at hl; exact hl
theorem run_stops {l : List Fr} {B bad : List UInt8} (h : ∀ g ∈ l, putE g = 0) (hB : puts l = B) (h0 : bad.length ≠ 0) (h8 : (bad.getD 0 0).toNat ≠ 83) : run (B ++ bad) = (l, B.length, 2) := by
  rw [← hB, run_puts l h bad, run_err h0 (by rw [bad_form h0 h8]; decide), bad_form h0 h8]
  simp
theorem run_whole {l : List Fr} {B : List UInt8} (h : ∀ g ∈ l, putE g = 0) (hB : puts l = B) : run B = (l, B.length, 0) := by
  have := run_puts l h []
  rw [run_nil (bs := []) rfl] at this
  rw [← hB]
  simpa using this
set_option maxRecDepth 100000 in
set_option maxHeartbeats 3200000 in
theorem frameStops_walk (a : Option Addr) (cap : Nat) (l : List Fr) (a1 : Option Addr) (cap1 : Nat) (bad : List UInt8) (w : World) (hl : FramesIn w a cap l) (hb : CellsB w a1 bad) (hz : a1 = none → bad.length = 0) :
    Calls Try.prog 9 #[.slice a l.length cap, .slice a1 bad.length cap1] w fun e w' => e = .returned (.bool true) ∧ Below w.heap.size w w' := by
  have HZ := Lib.hid hz
  clear hz
  by_cases h1 : (10 : Int) < (l.length : Int)
  · clear hb hl
    go_enter Try.func9, Try.ntmps9
    go_wp2_with (go_at_call 10; refine (frameAwake_any _).mono ?_; rintro e w1 ⟨rfl, hb1⟩)
    go_ret
    exact ⟨rfl, hb1⟩
  by_cases h2 : (bad.length : Int) < 1
  · clear hb hl
    go_enter Try.func9, Try.ntmps9
    go_wp2_with (go_at_call 10; refine (frameAwake_any _).mono ?_; rintro e w1 ⟨rfl, hb1⟩)
    go_ret
    exact ⟨rfl, hb1⟩
  by_cases h3 : (100 : Int) < (bad.length : Int)
  · clear hb hl
    go_enter Try.func9, Try.ntmps9
    go_wp2_with (go_at_call 10; refine (frameAwake_any _).mono ?_; rintro e w1 ⟨rfl, hb1⟩)
    go_ret
    exact ⟨rfl, hb1⟩
  obtain ⟨b1, off1, rfl, hb1lt, hcb⟩ := hb.at (show 0 < bad.length by omega)
  rw [Nat.add_zero] at hcb
  have HB9 : Hid (∀ x, x = (bad.getD 0 0).toNat → x ≠ 83 → ∀ (l : List Fr) (B : List UInt8), (∀ g ∈ l, putE g = 0) → puts l = B → run (B ++ bad) = (l, B.length, 2)) := fun x h1 h2 l B ho hp => run_stops ho hp (by omega) (h1 ▸ h2)
  generalize (bad.getD 0 0).toNat = x at hcb HB9
  by_cases h4 : ((x : Int) == 83) = true
  · clear hl
    go_enter Try.func9, Try.ntmps9
    go_wp2_with (go_at_call 10; refine (frameAwake_any _).mono ?_; rintro e w1 ⟨rfl, hd1⟩; replace hcb := ((bcell hd1).1 _ _ hb1lt).trans hcb)
    go_ret
    exact ⟨rfl, hd1⟩
  replace h4 : ((x : Int) == 83) = false := by simpa using h4
  have HX : Hid (x ≠ 83) := by intro h; rw [h] at h4; revert h4; decide
  have hi0 : (0 : Int) < (bad.length : Int) := by omega
  go_enter Try.func9, Try.ntmps9
  go_wp2_with (go_at_call 10; refine (frameAwake_any _).mono ?_; rintro e w1 ⟨rfl, hd1⟩; replace hcb := ((bcell hd1).1 _ _ hb1lt).trans hcb)
  clear hcb h4
  go_loopw [6, 7] (fun v i wr => ∃ (k : Nat) (B : List UInt8) (aL : Option Addr) (cL : Nat), k ≤ l.length ∧ i = .int .i64 k ∧ v = .slice aL B.length cL ∧ B.length ≤ k * 4104 ∧ Hid (puts (l.take k) = B) ∧ Hid (∀ g ∈ l.take k, putE g = 0) ∧ wr.ownsRow w.heap.size 5 1 (.slice aL B.length cL) B.length (B.map byteV) ∧ Below w.heap.size w wr) (fun _ i _ => l.length - (intOf i).toNat)
  case atStart => exact ⟨0, [], none, 0, by omega, rfl, rfl, by simp, by rw [Hid]; rfl, by intro g hg; simp at hg, World.ownsRow_nil _ _ _ _, hd1⟩
  case round =>
    obtain ⟨k, B, aL, cL, hk, rfl, rfl, hBl, HP, HO, hown, hbw⟩ := hrel
    by_cases hlt : k < l.length
    · obtain ⟨b, off, A, c, rfl, hblt, hc0, hc1, hA, hAn, hAc⟩ := (hl.below hbw).atB hlt
      have h1' : Hid (l[k]? = some (l[k]'hlt)) := List.getElem?_eq_getElem hlt
      generalize (l[k]'hlt) = f at hc0 hc1 hA hAn hAc h1'
      obtain ⟨K, D⟩ := f
      have hk0 : (0 : Int) ≤ (k : Int) := by omega
      have hk1 : (k : Int) < (l.length : Int) := by omega
      have HPut : Hid (∀ W, CellsB W A D → Calls Try.prog 11 #[.agg #[.int .i64 K, .slice A D.length c]] W (RetRowE 5 1 (putB (K, D)).length ((putB (K, D)).map byteV) (putE (K, D)) W)) := fun W h => put_any K A c D W h hAn
      by_cases he : putE (K, D) = 0
      · have hXl : (putB (K, D)).length ≤ 4104 := by have := putB_length he; have := (putE_zero he).2.2; omega
        have HE := Lib.hid he
        rw [he] at HPut
        have HX2 : Hid (putB (K, D) = putB (K, D)) := rfl
        generalize hX : putB (K, D) = X at HPut hXl
        have HX := Lib.hid hX
        clear hX he HX2
        by_cases h5 : (500 : Int) < (D.length : Int)
        · clear hl hAn hAc
          go_wp2_with (go_at_call 11; refine (HPut.out _ hA).mono ?_; rintro e w3 ⟨a3, c3, rfl, hown3, hd3⟩; replace hc0 := ((bcell hd3).1 _ _ hblt).trans hc0; replace hc1 := ((bcell hd3).1 _ _ hblt).trans hc1)
          go_ret
          exact ⟨rfl, bt hbw hd3⟩
        · go_wp2_with (first
            | (go_at_call 11; refine (HPut.out _ hA).mono ?_; rintro e w3 ⟨a3, c3, rfl, hown3, hd3⟩; replace hc0 := ((bcell hd3).1 _ _ hblt).trans hc0; replace hc1 := ((bcell hd3).1 _ _ hblt).trans hc1)
            | (at_builtin; refine wpList_append_row rfl (.tmp 64) (.tmp 65) rfl elemB w.heap.size (.slice aL B.length cL) B.length (B.map byteV) (by rfl) (own_below hown hd3) a3 X.length c3 (X.map byteV) (by rfl) (by simp) (RowAt.of_own hown3) (byteV_one _) (by unfold maxLen; omega) (by omega) (bt hbw hd3).size (own_none hown3) ?_; intro a6 c6 w6 hown6 hg6 hat6))
          have hb6 : Below w.heap.size w w6 := Below.appended (bt hbw hd3) (own_below hown hd3) hg6 (bt hbw hd3).size (Nat.le_refl _)
          have hl6 : B.length + X.length = (B ++ X).length := by simp
          have hm6 : B.map byteV ++ X.map byteV = (B ++ X).map byteV := by simp
          rw [hl6, hm6] at hown6
          have HP6 := Lib.hid (puts_goes h1'.out HP.out HX.out)
          have HO6 := Lib.hid (okay_snoc h1'.out HE.out HO.out)
          rw [hl6]
          have hBl6 : (B ++ X).length ≤ (k + 1) * 4104 := by rw [← hl6]; omega
          clear hown hg6 hat6 hl6 hm6 hown3
          generalize B ++ X = B6 at hown6 HP6 hBl6
          go_wp2
          go_roundw
          case rel => exact ⟨k + 1, B6, a6, c6, by omega, by go_num, rfl, hBl6, HP6, HO6, hown6, hb6⟩
          case measure => simp [intOf]; omega
      · have ht : (putE (K, D) != 0) = true := by simpa using he
        generalize putE (K, D) = E at HPut ht
        clear hl
        go_wp2_with (go_at_call 11; refine (HPut.out _ hA).mono ?_; rintro e w3 ⟨a3, c3, rfl, hown3, hd3⟩; replace hc0 := ((bcell hd3).1 _ _ hblt).trans hc0; replace hc1 := ((bcell hd3).1 _ _ hblt).trans hc1)
        go_ret
        exact ⟨rfl, bt hbw hd3⟩
    · have hek : k = l.length := by omega
      have HE := Lib.hid hek
      have HR : Hid (run (B ++ bad) = (l, B.length, 2)) := HB9.out x rfl HX.out l B (okay_all hek HO.out) (puts_all hek HP.out)
      clear hek
      have HS : Hid (∀ W A c, FramesIn W A c l → FramesIn W a cap l → Calls Try.prog 17 #[.slice A l.length c, .slice a l.length cap] W fun e w' => e = .returned (.bool true) ∧ Below W.heap.size W w') := fun W A c h1 h2 => by
        have := same_any A c l a cap l W h1 h2 (by omega)
        simpa using this
      obtain ⟨X, hX⟩ : ∃ X, X = B ++ bad := ⟨_, rfl⟩
      have HXL : Hid (B.length + bad.length = X.length) := by rw [Hid, hX]; simp
      have HXM : Hid (B.map byteV ++ bad.map byteV = X.map byteV) := by rw [Hid, hX]; simp
      have HRUN : Hid (∀ W A c, CellsB W A X → X.length ≤ c → Calls Try.prog 15 #[.slice A X.length c] W (RetRun (l, B.length, 2) W)) := fun W A c h hc => by
        have := run_any A c X W h hc (by rw [← HXL.out]; omega)
        rwa [hX, HR.out, ← hX] at this
      clear hX HR
      clear HB9
      go_wp2_with (first
        | (at_builtin; refine wpList_append_row rfl (.const (.slice none 0 0)) (.tmp 68) rfl elemB w.heap.size (.slice none 0 0) 0 [] (by rfl) (World.ownsRow_nil _ _ _ _) aL B.length cL (B.map byteV) (by rfl) (by simp) (RowAt.of_own hown) (byteV_one _) (by unfold maxLen; omega) (by omega) hbw.size (own_none hown) ?_; intro a6 c6 w6 hown6 hg6 hat6; simp only [Nat.zero_add, List.nil_append] at hown6; have hb6 : Below w.heap.size w w6 := Below.appended hbw (World.ownsRow_nil _ w.heap.size 5 1) hg6 hbw.size (Nat.le_refl _))
        | (at_builtin; refine wpList_append_row rfl (.tmp 69) (.tmp 70) rfl elemB w.heap.size (.slice a6 B.length c6) B.length (B.map byteV) (by rfl) hown6 (some ⟨b1, off1, none⟩) bad.length cap1 (bad.map byteV) (by rfl) (by simp) (hb.below hb6) (byteV_one _) (by unfold maxLen; omega) (by omega) hb6.size HZ.out ?_; intro a7 c7 w7 hown7 hg7 hat7; have hb7 : Below w.heap.size w w7 := Below.appended hb6 hown6 hg7 hb6.size (Nat.le_refl _); rw [HXL.out, HXM.out] at hown7; rw [HXL.out])
        | (go_at_call 15; refine (HRUN.out w7 a7 c7 (RowAt.of_own hown7) (own_le hown7)).mono ?_; rintro e w8 ⟨a8, c8, rfl, hf8, hd8⟩; have hb8 := bt hb7 hd8)
        | (go_at_call 17; refine (HS.out _ _ _ hf8 (hl.below hb8)).mono ?_; rintro e w9 ⟨rfl, hd9⟩; have hb9 := bt hb8 hd9))
      go_ret
      exact ⟨rfl, hb9⟩
end Go.Proofs.Ytbonockefjenaaa
