/-
  Layer 2: the document's Pack.
-/
import Derived.Test.YtipngfdibcapjaaFieldsE
namespace Go.Proofs.Ytipngfdibcapjaa
open Go.RowKit
set_option linter.unusedVariables false
theorem any_no {ns : List Int} (h : ∀ n ∈ ns, 0 ≤ sizeI n) : (ns.any fun n => decide (sizeI n < 0)) = false := by
  rw [Bool.eq_false_iff]
  intro h1
  obtain ⟨n, hn, h2⟩ := List.any_eq_true.1 h1
  have := h n hn; have := of_decide_eq_true h2; omega
theorem okay_goes {ns : List Int} {k : Nat} (hk : k < ns.length) (h : ∀ n ∈ ns.take k, 0 ≤ sizeI n) (h2 : ¬ sizeI (ns[k]'hk) < 0) : ∀ n ∈ ns.take (k + 1), 0 ≤ sizeI n := by
  rw [List.take_add_one, List.getElem?_eq_getElem hk]
  intro n hn
  simp only [Option.toList_some, List.mem_append, List.mem_singleton] at hn
  rcases hn with hn | rfl
  · exact h n hn
  · omega
set_option maxHeartbeats 3200000 in
theorem refPack_any (a : Option Addr) (c : Nat) (ns : List Int) (d : Option Addr) (cd : Nat) (bs : List UInt8) (w : World) (hi : IntsIn w a c ns) (hb : CellsB w d bs) (hz : d = none → bs.length = 0) :
    Calls Try.prog 13 #[.agg #[.slice a ns.length c, .slice d bs.length cd]] w (RetRowE 5 1 (packB (ns, bs)).length ((packB (ns, bs)).map byteV) (packE (ns, bs)) w) := by
  have HZ := Lib.hid hz
  clear hz
  by_cases h1 : (255 : Int) < (ns.length : Int)
  · have he : Hid (packE (ns, bs) = 7 ∧ packB (ns, bs) = []) := by
      have : packE (ns, bs) = 7 := if_pos (.inl (by show 255 < ns.length; omega))
      exact ⟨this, packB_none (by omega)⟩
    clear hi hb
    go_enter Try.func13, Try.ntmps13
    go_wp2
    go_ret2
    rw [he.out.1, he.out.2]
    exact ⟨none, 0, rfl, World.ownsRow_nil _ _ _ _, (Below.refl _ _).alloc (Nat.le_refl _) _⟩
  by_cases h2 : (4096 : Int) < (bs.length : Int)
  · have he : Hid (packE (ns, bs) = 7 ∧ packB (ns, bs) = []) := by
      have : packE (ns, bs) = 7 := if_pos (.inr (by show 4096 < bs.length; omega))
      exact ⟨this, packB_none (by omega)⟩
    clear hi hb
    go_enter Try.func13, Try.ntmps13
    go_wp2
    go_ret2
    rw [he.out.1, he.out.2]
    exact ⟨none, 0, rfl, World.ownsRow_nil _ _ _ _, (Below.refl _ _).alloc (Nat.le_refl _) _⟩
  have HE0 : Hid (packE (ns, bs) = if ns.any (fun n => decide (sizeI n < 0)) = true then 1 else 0) := if_neg (by show ¬ (255 < ns.length ∨ 4096 < bs.length); omega)
  have hcn := hi.cells
  have HWF := Lib.hid hi.wf
  clear hi
  go_enter Try.func13, Try.ntmps13
  go_wp2_with fail
  obtain ⟨F, hF⟩ : ∃ F, F = w.heap.size := ⟨_, rfl⟩
  obtain ⟨hc0, hc1, _, _, hFl⟩ := two_cells (w := w) (x := .slice a ns.length c) (y := .slice d bs.length cd) (t := 25) (w1 := (w.alloc (.cells #[.slice a ns.length c, .slice d bs.length cd] 25)).alloc (.cells #[.int .u8 (ns.length : Int)] 5)) ((Below.refl _ _).alloc (Nat.le_refl _) _)
  have hbW : Below w.heap.size w ((w.alloc (.cells #[.slice a ns.length c, .slice d bs.length cd] 25)).alloc (.cells #[.int .u8 (ns.length : Int)] 5)) := ((Below.refl _ _).alloc (Nat.le_refl _) _).alloc (by simp) _
  have hsz : ((w.alloc (.cells #[.slice a ns.length c, .slice d bs.length cd] 25)).alloc (.cells #[.int .u8 (ns.length : Int)] 5)).heap.size = w.heap.size + 2 := by simp
  have hbyte : (.int .u8 (ns.length : Int) : Value) = byteV (b8 ns.length) := by unfold byteV; rw [b8_mod]; congr 1; omega
  have hown : ((w.alloc (.cells #[.slice a ns.length c, .slice d bs.length cd] 25)).alloc (.cells #[.int .u8 (ns.length : Int)] 5)).ownsRow (w.heap.size + 1) 5 1 (.slice (some ⟨w.heap.size + 1, 0, none⟩) 1 1) 1 [byteV (b8 ns.length)] := by
    rw [← hbyte]
    exact own_lit1 _ _ 1 (Nat.le_refl _) (by decide) rfl
  have HBY := Lib.hid hbyte
  generalize ((w.alloc (.cells #[.slice a ns.length c, .slice d bs.length cd] 25)).alloc (.cells #[.int .u8 (ns.length : Int)] 5)) = W1 at hc0 hc1 hFl hbW hown hsz
  rw [← hF] at hc0 hc1 hFl hown hsz ⊢
  have HF := Lib.hid hF
  have hFW : F + 1 ≤ W1.heap.size := by omega
  clear hF hbyte hsz
  go_wp2_with fail
  go_loopw [4, 5] (fun v i wr => ∃ (k : Nat) (X : List UInt8) (aL : Option Addr) (cL : Nat), k ≤ ns.length ∧ i = .int .i64 k ∧ v = .slice aL X.length cL ∧ X.length ≤ 1 + k * 8 ∧ Hid (X = b8 ns.length :: (ns.take k).flatMap numB) ∧ Hid (∀ n ∈ ns.take k, 0 ≤ sizeI n) ∧ wr.ownsRow (F + 1) 5 1 (.slice aL X.length cL) X.length (X.map byteV) ∧ Below (F + 1) W1 wr) (fun _ i _ => ns.length - (intOf i).toNat)
  case atStart => exact ⟨0, [b8 ns.length], _, 1, by omega, rfl, rfl, by simp, by rw [Hid]; simp, by intro n hn; simp at hn, hown, Below.refl _ _⟩
  case round =>
    obtain ⟨k, X, aL, cL, hk, rfl, rfl, hXl, HX, HO, hown, hbw⟩ := hrel
    have hc0r : wr.cell? ⟨F, 0, none⟩ = some (.slice a ns.length c) := by rw [(bcell hbw).1 _ _ (by omega)]; exact hc0
    have hFr : F + 1 ≤ wr.heap.size := Nat.le_trans hFW hbw.size
    have hbwr : Below w.heap.size w wr := hbW.trans (hbw.mono (by have := HF.out; omega))
    by_cases hlt : k < ns.length
    · obtain ⟨b, off, rfl, hblt, hc⟩ := hcn.at hlt
      have hwf := HWF.out _ (List.getElem_mem hlt)
      have HT := Lib.hid (nums_take hlt)
      have hb0 : b < F := by have := HF.out; omega
      have hcW : wr.cell? ⟨b, off + k, none⟩ = some (.int .i64 (ns[k]'hlt)) := by
        rw [(bcell hbw).1 _ _ (by omega), (bcell hbW).1 _ _ hblt]; exact hc
      have hk0 : (0 : Int) ≤ (k : Int) := by omega
      have hk1 : (k : Int) < (ns.length : Int) := by omega
      by_cases hp : sizeI (ns[k]'hlt) < 0
      · have HA : Hid (packE (ns, bs) = 1 ∧ packB (ns, bs) = []) := by
          have : packE (ns, bs) = 1 := by rw [HE0.out, any_stops (p := fun n => decide (sizeI n < 0)) hlt (decide_eq_true hp)]; rfl
          exact ⟨this, packB_none (by omega)⟩
        have HS : Hid (∀ W, Calls Try.prog 15 #[.int .i64 (ns[k]'hlt)] W fun e w' => e = .returned (.int .i64 (sizeI (ns[k]'hlt))) ∧ w' = W) := fun W => refSize_any _ hwf W
        generalize sizeI (ns[k]'hlt) = s at hp HS
        generalize (ns[k]'hlt) = x at hcW HS hc hwf HT
        clear hc hwf HT hc0 hc1
        go_wp2_with (go_at_call 15; refine (HS.out _).mono ?_; rintro e w' ⟨rfl, hw'⟩; obtain rfl : wr = w' := hw'.symm)
        go_ret2
        rw [HA.out.1, HA.out.2]
        exact ⟨none, 0, rfl, World.ownsRow_nil _ _ _ _, hbwr⟩
      · have HO2 := Lib.hid (okay_goes hlt HO.out hp)
        have hx : 0 ≤ (ns[k]'hlt) ∧ (ns[k]'hlt) < 72057594037927936 := by
          by_cases h4 : (ns[k]'hlt) < 0 ∨ 72057594037927936 ≤ (ns[k]'hlt)
          · rw [sizeI_bad h4] at hp; omega
          · omega
        generalize (ns[k]'hlt) = x at hcW hwf hx HT hc HO2 hp
        have hso := sizeI_ok hx.1 hx.2
        obtain ⟨m, rfl⟩ : ∃ m : Nat, x = (m : Int) := ⟨x.toNat, by omega⟩
        rw [Int.toNat_natCast] at hso
        have HS : Hid (∀ W, Calls Try.prog 15 #[.int .i64 m] W fun e w' => e = .returned (.int .i64 (dsz m : Int)) ∧ w' = W) := fun W => by
          have := refSize_any m hwf W
          rwa [hso.1] at this
        obtain ⟨D, hD⟩ : ∃ D, D = dsz m := ⟨_, rfl⟩
        have HNB : Hid (numB (m : Int) = b8 D :: digs m D) := by rw [Hid, hD]; rfl
        rw [← hD] at HS hso
        have h7 := hso.2
        have HDG : Hid (∀ W, Calls Try.prog 24 #[.int .i64 m, .int .i64 D] W (RetRow 5 1 D ((digs m D).map byteV) W)) := fun W => digits_any m D W (by omega) (by omega)
        have HDL : Hid ((digs m D).length = D) := digsP_length _ _ _
        clear hD hso hx hwf hc hp
        have HD8 : Hid ((D : Int) = ((b8 D).toNat : Int)) := by rw [Hid, b8_mod]; omega
        obtain ⟨Y, hY⟩ : ∃ Y, Y = X ++ [b8 D] := ⟨_, rfl⟩
        obtain ⟨Z, hZ⟩ : ∃ Z, Z = Y ++ digs m D := ⟨_, rfl⟩
        have HYL : Hid (X.length + 1 = Y.length) := by rw [Hid, hY]; simp
        have HYM : Hid (X.map byteV ++ [byteV (b8 D)] = Y.map byteV) := by rw [Hid, hY]; simp
        have HZL : Hid (Y.length + D = Z.length) := by rw [Hid, hZ, List.length_append, HDL.out]
        have HZM : Hid (Y.map byteV ++ (digs m D).map byteV = Z.map byteV) := by rw [Hid, hZ]; simp
        have HY : Hid (Z = b8 ns.length :: (ns.take (k + 1)).flatMap numB) := by rw [Hid, hZ, hY, HX.out, HT.out, HNB.out]; simp
        clear hY hZ
        go_wp2_with (first
          | (go_at_call 15; refine (HS.out _).mono ?_; rintro e w' ⟨rfl, hw'⟩; obtain rfl : wr = w' := hw'.symm)
          | (at_builtin; refine wpList_append_row rfl (.tmp 37) (.tmp 40) rfl elemB (F + 1) (.slice aL X.length cL) X.length (X.map byteV) (by rfl) (hown.alloc _) (some ⟨_, 0, none⟩) 1 1 [byteV (b8 D)] (by rfl) (by rfl) (row_one _ _ _ HD8.out) (byteV_one [b8 D]) (by unfold maxLen; omega) (by omega) (by simp; omega) (by simp) ?_; intro a6 c6 w6 hown6 hg6 hat6; have hb6 : Below (F + 1) W1 w6 := Below.appended (hbw.alloc hFr _) (hown.alloc _) hg6 (by simp; omega) (Nat.le_refl _); rw [HYL.out, HYM.out] at hown6; rw [HYL.out]; have hc06 : w6.cell? ⟨F, 0, none⟩ = some (.slice (some ⟨b, off, none⟩) ns.length c) := by { rw [(bcell hb6).1 _ _ (by omega)]; exact hc0 }; have hcW6 : w6.cell? ⟨b, off + k, none⟩ = some (.int .i64 m) := by { rw [(bcell hb6).1 _ _ (by omega), ← (bcell hbw).1 _ _ (by omega)]; exact hcW })
          | (go_at_call 24; refine (HDG.out w6).mono ?_; rintro e w7 ⟨a7, c7, rfl, hown7, hd7⟩)
          | (at_builtin; refine wpList_append_row rfl (.tmp 42) (.tmp 49) rfl elemB (F + 1) (.slice a6 Y.length c6) Y.length (Y.map byteV) (by rfl) (own_below hown6 hd7) a7 D c7 ((digs m D).map byteV) (by rfl) (by rw [List.length_map, HDL.out, Nat.mul_one]) (RowAt.of_own hown7) (byteV_one _) (by have := HYL.out; unfold maxLen; omega) (by have := HYL.out; omega) (by have := hb6.size; have := hd7.size; omega) (own_none hown7) ?_; intro a8 c8 w8 hown8 hg8 hat8; have hb8 : Below (F + 1) W1 w8 := Below.appended (hb6.trans (hd7.mono (by have := hb6.size; omega))) (own_below hown6 hd7) hg8 (by have := hb6.size; have := hd7.size; omega) (Nat.le_refl _); rw [HZL.out, HZM.out] at hown8; rw [HZL.out]))
        go_roundw
        case rel => exact ⟨k + 1, Z, a8, c8, by omega, by go_num, rfl, by have := HYL.out; have := HZL.out; omega, HY, HO2, hown8, hb8⟩
        case measure => simp [intOf]; omega
    · have hek : k = ns.length := by omega
      have HX2 : Hid (X = b8 ns.length :: ns.flatMap numB) := by have := HX.out; rwa [hek, List.take_length] at this
      have he0 : packE (ns, bs) = 0 := by
        have := HO.out
        rw [hek, List.take_length] at this
        rw [HE0.out, any_no this]; rfl
      have HE := Lib.hid he0
      have HB := Lib.hid (packB_eq he0)
      have hc1r : wr.cell? ⟨F, 1, none⟩ = some (.slice d bs.length cd) := by rw [(bcell hbw).1 _ _ (by omega)]; exact hc1
      have HDG : Hid (∀ W, Calls Try.prog 24 #[.int .i64 bs.length, .int .i64 2] W (RetRow 5 1 2 ((digs bs.length 2).map byteV) W)) := fun W => digits_any bs.length 2 W (by omega) (by omega)
      have HDL : Hid ((digs bs.length 2).length = 2) := digsP_length _ _ _
      obtain ⟨Y, hY⟩ : ∃ Y, Y = X ++ digs bs.length 2 := ⟨_, rfl⟩
      obtain ⟨Z, hZ⟩ : ∃ Z, Z = Y ++ bs := ⟨_, rfl⟩
      have HYL : Hid (X.length + 2 = Y.length) := by rw [Hid, hY, List.length_append, HDL.out]
      have HYM : Hid (X.map byteV ++ (digs bs.length 2).map byteV = Y.map byteV) := by rw [Hid, hY]; simp
      have HZL : Hid (Y.length + bs.length = Z.length) := by rw [Hid, hZ]; simp
      have HZM : Hid (Y.map byteV ++ bs.map byteV = Z.map byteV) := by rw [Hid, hZ]; simp
      have HPX : Hid (packX (ns, bs) = Z) := by rw [Hid, hZ, hY, HX2.out]; rfl
      clear hek he0 hY hZ hc0
      go_wp2_with (first
        | (go_at_call 24; refine (HDG.out wr).mono ?_; rintro e w7 ⟨a7, c7, rfl, hown7, hd7⟩)
        | (at_builtin; refine wpList_append_row rfl (.tmp 51) (.tmp 55) rfl elemB (F + 1) (.slice aL X.length cL) X.length (X.map byteV) (by rfl) (own_below hown hd7) a7 2 c7 ((digs bs.length 2).map byteV) (by rfl) (by rw [List.length_map, HDL.out]) (RowAt.of_own hown7) (byteV_one _) (by unfold maxLen; omega) (by omega) (by have := hd7.size; omega) (own_none hown7) ?_; intro a8 c8 w8 hown8 hg8 hat8; have hb8 : Below (F + 1) W1 w8 := Below.appended (hbw.trans (hd7.mono hFr)) (own_below hown hd7) hg8 (by have := hd7.size; omega) (Nat.le_refl _); rw [HYL.out, HYM.out] at hown8; rw [HYL.out]; have hc18 : w8.cell? ⟨F, 1, none⟩ = some (.slice d bs.length cd) := by { rw [(bcell hb8).1 _ _ (by omega)]; exact hc1 })
        | (at_builtin; refine wpList_append_row rfl (.tmp 57) (.tmp 59) rfl elemB (F + 1) (.slice a8 Y.length c8) Y.length (Y.map byteV) (by rfl) hown8 d bs.length cd (bs.map byteV) (by rfl) (by simp) (hb.below (hbW.trans (hb8.mono (by have := HF.out; omega)))) (byteV_one _) (by have := HYL.out; unfold maxLen; omega) (by have := HYL.out; omega) (by have := hb8.size; omega) HZ.out ?_; intro a9 c9 w9 hown9 hg9 hat9; have hb9 : Below (F + 1) W1 w9 := Below.appended hb8 hown8 hg9 (by have := hb8.size; omega) (Nat.le_refl _); rw [HZL.out, HZM.out] at hown9; rw [HZL.out]))
      go_ret2
      rw [HE.out, HB.out, HPX.out]
      exact ⟨a9, c9, rfl, own_base hown9 (by have := HF.out; omega), hbW.trans (hb9.mono (by have := HF.out; omega))⟩
end Go.Proofs.Ytipngfdibcapjaa
