/-
  Layer 3's laws, fifth part: a frame that was put is got.
-/
import Derived.Test.YtbonockefjenaaaFrameLawsD
namespace Go.Proofs.Ytbonockefjenaaa
open Go.RowKit
theorem FramesIn.one {w : World} {a : Option Addr} {cap : Nat} {l : List Fr} (h : FramesIn w a cap l) {i : Nat} {f : Fr} (hf : l[i]? = some f) : FramesIn w (cutS a cap i 2) (cap - i) [f] := by
  have hi : i < l.length := by
    rcases Nat.lt_or_ge i l.length with h | h
    · exact h
    · rw [List.getElem?_eq_none h] at hf; cases hf
  have hcap := h.cap
  have hn := h.none_
  obtain ⟨⟨xs, hr, hx⟩, _, _⟩ := h
  have hl := hx.length
  have e : (l.drop i).take 1 = [f] := by
    rw [List.drop_eq_getElem_cons hi]
    rw [List.getElem?_eq_getElem hi] at hf
    cases hf
    rfl
  have h2 := (hx.drop i).take 1
  rw [e] at h2
  refine ⟨⟨_, (hr.cutS cap i 2 (by omega)).take _, h2⟩, by simp; omega, fun h => ?_⟩
  have := cutS_none (n := l.length) hn h
  omega
theorem get_back {f : Fr} {X Y more : List UInt8} (he : putE f = 0) (hX : putB f = X) (hY : Y = X ++ more) : getE Y = 0 ∧ getN Y = X.length ∧ getF Y = f := by rw [hY, ← hX]; exact putB_get he more
set_option maxRecDepth 100000 in
set_option maxHeartbeats 3200000 in
theorem frameBack_walk (a : Option Addr) (cap : Nat) (l : List Fr) (a1 : Option Addr) (cap1 : Nat) (more : List UInt8) (w : World) (hl : FramesIn w a cap l) (hb : CellsB w a1 more) (hz : a1 = none → more.length = 0) :
    Calls Try.prog 7 #[.slice a l.length cap, .slice a1 more.length cap1] w fun e w' => e = .returned (.bool true) ∧ Below w.heap.size w w' := by
  have HZ := Lib.hid hz
  clear hz
  by_cases h1 : (10 : Int) < (l.length : Int)
  · clear hb hl
    go_enter Try.func7, Try.ntmps7
    go_wp2_with (go_at_call 10; refine (frameAwake_any _).mono ?_; rintro e w1 ⟨rfl, hb1⟩)
    go_ret
    exact ⟨rfl, hb1⟩
  by_cases h3 : (100 : Int) < (more.length : Int)
  · clear hb hl
    go_enter Try.func7, Try.ntmps7
    go_wp2_with (go_at_call 10; refine (frameAwake_any _).mono ?_; rintro e w1 ⟨rfl, hb1⟩)
    go_ret
    exact ⟨rfl, hb1⟩
  have hlc : l.length ≤ cap := hl.cap
  go_enter Try.func7, Try.ntmps7
  go_wp2_with (go_at_call 10; refine (frameAwake_any _).mono ?_; rintro e w1 ⟨rfl, hd1⟩)
  go_loopw [6, 7] (fun v i wr => ∃ (k : Nat) (B : List UInt8) (aL : Option Addr) (cL : Nat), k ≤ l.length ∧ i = .int .i64 k ∧ v = .slice aL B.length cL ∧ B.length ≤ k * 4104 ∧ Hid (puts (l.take k) = B) ∧ Hid (∀ g ∈ l.take k, putE g = 0) ∧ wr.ownsRow w.heap.size 5 1 (.slice aL B.length cL) B.length (B.map byteV) ∧ Below w.heap.size w wr) (fun _ i _ => l.length - (intOf i).toNat)
  case atStart => exact ⟨0, [], none, 0, by omega, rfl, rfl, by simp, by rw [Hid]; rfl, by intro g hg; simp at hg, World.ownsRow_nil _ _ _ _, hd1⟩
  case round =>
    obtain ⟨k, B, aL, cL, hk, rfl, rfl, hBl, HP, HO, hown, hbw⟩ := hrel
    by_cases hlt : k < l.length
    · obtain ⟨b, off, A, c, hab, hblt, hc0, hc1, hA, hAn, hAc⟩ := (hl.below hbw).atB hlt
      subst hab
      have h1' : Hid (l[k]? = some (l[k]'hlt)) := List.getElem?_eq_getElem hlt
      generalize (l[k]'hlt) = f at hc0 hc1 hA hAn hAc h1'
      obtain ⟨K, D⟩ := f
      have hk0 : (0 : Int) ≤ (k : Int) := by omega
      have hk1 : (k : Int) < (l.length : Int) := by omega
      by_cases h5 : (5000 : Int) < (D.length : Int)
      · clear hl hAn hAc hA
        go_wp2
        go_ret
        exact ⟨rfl, hbw⟩
      have HPut : Hid (∀ W, CellsB W A D → Calls Try.prog 11 #[.agg #[.int .i64 K, .slice A D.length c]] W (RetRowE 5 1 (putB (K, D)).length ((putB (K, D)).map byteV) (putE (K, D)) W)) := fun W h => put_any K A c D W h hAn
      by_cases he : putE (K, D) = 0
      · have hXl : (putB (K, D)).length ≤ 4104 := by have := putB_length he; have := (putE_zero he).2.2; omega
        have HE := Lib.hid he
        rw [he] at HPut
        generalize hX : putB (K, D) = X at HPut hXl
        have HX := Lib.hid hX
        obtain ⟨Y, hY⟩ : ∃ Y, Y = X ++ more := ⟨_, rfl⟩
        have hg := get_back he hX hY
        have HYL : Hid (X.length + more.length = Y.length) := by rw [Hid, hY]; simp
        have HYM : Hid (X.map byteV ++ more.map byteV = Y.map byteV) := by rw [Hid, hY]; simp
        have HGet : Hid (∀ W A c, CellsB W A Y → Y.length ≤ c → Calls Try.prog 13 #[.slice A Y.length c] W (RetGet (K, D) X.length 0 W)) := fun W A c h hc => by
          have := get_any A c Y W h hc (by rw [← HYL.out]; omega)
          rwa [hg.1, hg.2.1, hg.2.2] at this
        have HSame : Hid (∀ W b1 C1, C1 = cutS (some ⟨b, off, none⟩) cap k 2 → FramesIn W (some ⟨b1, 0, none⟩) 1 [(K, D)] → FramesIn W (some ⟨b, off, none⟩) cap l → Calls Try.prog 17 #[.slice (some ⟨b1, 0, none⟩) 1 1, .slice C1 1 (cap - k)] W fun e w' => e = .returned (.bool true) ∧ Below W.heap.size W w') := fun W b1 C1 hC h1 h2 => by
          have := same_any (some ⟨b1, 0, none⟩) 1 [(K, D)] C1 (cap - k) [(K, D)] W h1 (hC ▸ h2.one h1'.out) (by simp)
          simpa using this
        have hsl : ∀ W, (Instr.slice 36 (.slice (some ⟨b, off, none⟩) l.length cap) (some (.int .i64 (k : Int))) (some (.int .i64 ((k : Int) + 1))) none).run Try.prog W = .ok (.slice (cutS (some ⟨b, off, none⟩) cap k 2) 1 (cap - k)) W := fun W => by
          have := slice_midS elemF (some ⟨b, off, none⟩) l.length cap k (k + 1) (by omega) (by omega) W
          simpa using this
        have HC1 : Hid (∃ C1, C1 = cutS (some ⟨b, off, none⟩) cap k 2) := ⟨_, rfl⟩
        obtain ⟨C1, hC1⟩ := HC1.out
        rw [← hC1] at hsl
        have HC := Lib.hid hC1
        clear hX he hY hg hC1
        go_wp2_with (first
          | (go_at_call 11; refine (HPut.out _ hA).mono ?_; rintro e w3 ⟨a3, c3, rfl, hown3, hd3⟩; replace hc0 := ((bcell hd3).1 _ _ hblt).trans hc0; replace hc1 := ((bcell hd3).1 _ _ hblt).trans hc1; have hb3 := bt hbw hd3)
          | (at_builtin; refine wpList_append_row rfl (.const (.slice none 0 0)) (.tmp 59) rfl elemB w3.heap.size (.slice none 0 0) 0 [] (by rfl) (World.ownsRow_nil _ _ _ _) a3 X.length c3 (X.map byteV) (by rfl) (by simp) (RowAt.of_own hown3) (byteV_one _) (by unfold maxLen; omega) (by omega) (Nat.le_refl _) (own_none hown3) ?_; intro a4 c4 w4 hown4 hg4 hat4; simp only [Nat.zero_add, List.nil_append] at hown4; have hd4 : Below w3.heap.size w3 w4 := Below.appended (Below.refl _ _) (World.ownsRow_nil w3 w3.heap.size 5 1) hg4 (Nat.le_refl _) (Nat.le_refl _); have hb4 := bt hb3 hd4)
          | (at_builtin; refine wpList_append_row rfl (.tmp 60) (.tmp 61) rfl elemB w3.heap.size (.slice a4 X.length c4) X.length (X.map byteV) (by rfl) hown4 a1 more.length cap1 (more.map byteV) (by rfl) (by simp) (hb.below hb4) (byteV_one _) (by unfold maxLen; omega) (by omega) hd4.size HZ.out ?_; intro a5 c5 w5 hown5 hg5 hat5; have hd5 : Below w3.heap.size w3 w5 := Below.appended hd4 hown4 hg5 hd4.size (Nat.le_refl _); rw [HYL.out, HYM.out] at hown5; rw [HYL.out])
          | (go_at_call 13; refine (HGet.out _ a5 c5 (RowAt.of_own hown5) (own_le hown5)).mono ?_; rintro e w6 ⟨a6, c6, rfl, hcl6, hn6, ⟨hle6, _⟩, hd6⟩))
        have hd7 : Below w3.heap.size w3 (w6.alloc (.cells #[.int .i64 K, .slice a6 D.length c6] 24)) := (bt hd5 hd6).alloc (bt hd5 hd6).size _
        obtain ⟨hf0, hf1, _, _, hfl⟩ := two_cells (w := w6) (x := .int .i64 K) (y := .slice a6 D.length c6) (t := 24) (Below.refl _ _)
        have hcl7 := hcl6.below ((Below.refl _ _).alloc (Nat.le_refl _) (.cells #[.int .i64 K, .slice a6 D.length c6] 24))
        generalize w6.alloc (.cells #[.int .i64 K, .slice a6 D.length c6] 24) = w7 at hd7 hf0 hf1 hfl hcl7
        generalize w6.heap.size = F at hf0 hf1 hfl
        have hb7 := bt hb3 hd7
        have hown7 := own_below (own_below hown hd3) hd7
        have hx7 := own_below hown3 hd7
        clear hcl6 hd6 hg4 hg5 hat4 hat5 hown4 hown5 hd5 hd4 hown hown3 hd7
        have hwk : IntKind.i64.wrap ((k : Int) + 1) = (k : Int) + 1 := by rw [IntKind.wrap_i64]; omega
        have hkc : (k : Int) + 1 ≤ (cap : Int) := by omega
        have hkk : (k : Int) ≤ (k : Int) + 1 := by omega
        have hal : Below w7.heap.size w7 (w7.alloc (.cells #[.int .i64 K, .slice a6 D.length c6] 24)).drew := ((Below.refl _ _).alloc (Nat.le_refl _) _).drew
        have hfa0 := ((bcell hal).1 _ _ hfl).trans hf0
        have hfa1 := ((bcell hal).1 _ _ hfl).trans hf1
        go_region_held3 (fun W => W.cell? ⟨F, 0, none⟩ = some (.int .i64 K) ∧ W.cell? ⟨F, 1, none⟩ = some (.slice a6 D.length c6)) (first | exact ⟨hf0, hf1⟩ | exact ⟨hfa0, hfa1⟩ | exact ⟨hfb0, hfb1⟩) ((go_at_call 17; refine (HSame.out _ _ C1 HC.out (frames_one (hcl7.below hal) hn6 hle6 _ (RowAt.new w7 #[.int .i64 K, .slice a6 D.length c6] 24)) (hl.below (bt hb7 hal))).mono ?_; rintro e w8 ⟨rfl, hd8⟩; have hd9 := bt hal hd8; have hfb0 := ((bcell hd9).1 _ _ hfl).trans hf0; have hfb1 := ((bcell hd9).1 _ _ hfl).trans hf1))
        have hb8 := bt hb7 hd9
        clear hfa0 hfa1 hfb0 hfb1 hf0 hf1 hal hd8 hsl hwk hkc hkk
        go_wp2_with (at_builtin; refine wpList_append_row rfl (.tmp 87) (.tmp 88) rfl elemB w.heap.size (.slice aL B.length cL) B.length (B.map byteV) (by rfl) (own_below hown7 hd9) a3 X.length c3 (X.map byteV) (by rfl) (by simp) (RowAt.of_own (own_below hx7 hd9)) (byteV_one _) (by unfold maxLen; omega) (by omega) hb8.size (own_none hx7) ?_; intro a9 c9 w9 hown9 hg9 hat9)
        have hb9 : Below w.heap.size w w9 := Below.appended hb8 (own_below hown7 hd9) hg9 hb8.size (Nat.le_refl _)
        have hl6 : B.length + X.length = (B ++ X).length := by simp
        have hm6 : B.map byteV ++ X.map byteV = (B ++ X).map byteV := by simp
        rw [hl6, hm6] at hown9
        have HP6 := Lib.hid (puts_goes h1'.out HP.out HX.out)
        have HO6 := Lib.hid (okay_snoc h1'.out HE.out HO.out)
        rw [hl6]
        have hBl6 : (B ++ X).length ≤ (k + 1) * 4104 := by rw [← hl6]; omega
        clear hown7 hx7 hg9 hat9 hl6 hm6
        generalize B ++ X = B6 at hown9 HP6 hBl6
        go_wp2
        go_roundw
        case rel => exact ⟨k + 1, B6, a9, c9, by omega, by go_num, rfl, hBl6, HP6, HO6, hown9, hb9⟩
        case measure => simp [intOf]; omega
      · have ht : (putE (K, D) != 0) = true := by simpa using he
        rw [putB_none he] at HPut
        generalize putE (K, D) = E at HPut ht
        clear hl
        go_wp2_with (go_at_call 11; refine (HPut.out _ hA).mono ?_; rintro e w3 ⟨a3, c3, rfl, hown3, hd3⟩)
        go_ret
        exact ⟨rfl, bt hbw hd3⟩
    · have hek : k = l.length := by omega
      have HE := Lib.hid hek
      have HS : Hid (∀ W A c, FramesIn W A c l → FramesIn W a cap l → Calls Try.prog 17 #[.slice A l.length c, .slice a l.length cap] W fun e w' => e = .returned (.bool true) ∧ Below W.heap.size W w') := fun W A c h1 h2 => by
        have := same_any A c l a cap l W h1 h2 (by omega)
        simpa using this
      have HRUN : Hid (∀ W A c, CellsB W A B → B.length ≤ c → Calls Try.prog 15 #[.slice A B.length c] W (RetRun (l, B.length, 0) W)) := fun W A c h hc => by
        have := run_any A c B W h hc (by omega)
        rwa [run_whole (okay_all hek HO.out) (puts_all hek HP.out)] at this
      clear hek
      go_wp2_with (first
        | (go_at_call 15; refine (HRUN.out wr aL cL (RowAt.of_own hown) (own_le hown)).mono ?_; rintro e w8 ⟨a8, c8, rfl, hf8, hd8⟩; have hb8 := bt hbw hd8)
        | (go_at_call 17; refine (HS.out _ _ _ hf8 (hl.below hb8)).mono ?_; rintro e w9 ⟨rfl, hd9⟩; have hb9 := bt hb8 hd9))
      go_ret
      exact ⟨rfl, hb9⟩
end Go.Proofs.Ytbonockefjenaaa
