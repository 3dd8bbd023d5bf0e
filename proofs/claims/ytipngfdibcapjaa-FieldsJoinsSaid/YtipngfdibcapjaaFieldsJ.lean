/-
  Layer 2's laws: FieldsJoins.
-/
import Derived.Test.YtipngfdibcapjaaFieldsZ
import Derived.Test.YtipngfdibcapjaaOpenFieldss
namespace Go.Proofs.Ytipngfdibcapjaa
open Go.RowKit
set_option linter.unusedVariables false
theorem packX_small {f : Fl} (h : packE f = 0) (h1 : f.1.length ≤ 20) (h2 : f.2.length ≤ 200) : (packX f).length ≤ 400 := by
  have := packX_length f
  have := sum_le (ns := f.1) (packE_zero h).2.2
  omega
theorem flat_take {fs : List Fl} {k : Nat} (hk : k < fs.length) : (fs.take (k + 1)).flatMap packX = (fs.take k).flatMap packX ++ packX (fs[k]'hk) := by
  rw [List.take_add_one, List.getElem?_eq_getElem hk, List.flatMap_append]
  simp
theorem flat_drop {fs : List Fl} {k : Nat} (hk : k < fs.length) : (fs.drop k).flatMap packX = packX (fs[k]'hk) ++ (fs.drop (k + 1)).flatMap packX := by
  rw [List.drop_eq_getElem_cons hk, List.flatMap_cons]
/-- Fields that may be joined. -/
def Small (f : Fl) : Prop := packE f = 0 ∧ f.1.length ≤ 20 ∧ f.2.length ≤ 200
theorem flat_le {fs : List Fl} (h : ∀ f ∈ fs, Small f) : (fs.flatMap packX).length ≤ fs.length * 400 := by
  induction fs with
  | nil => simp
  | cons f fs ih =>
    have h0 := h f (by simp)
    have := packX_small h0.1 h0.2.1 h0.2.2
    have := ih fun g hg => h g (by simp [hg])
    rw [List.flatMap_cons, List.length_append, List.length_cons]
    omega
set_option maxRecDepth 100000 in
set_option maxHeartbeats 12800000 in
theorem fieldsJoins_walk (a : Option Addr) (cap : Nat) (fs : List Fl) (w : World) (hf : FieldsIn w a cap fs) :
    Calls Try.prog 6 #[.slice a fs.length cap] w fun e w' => e = .returned (.bool true) ∧ Below w.heap.size w w' := by
  by_cases h10 : (10 : Int) < (fs.length : Int)
  · clear hf
    go_enter Try.func6, Try.ntmps6
    go_wp2_with (go_at_call 11; refine (fieldsAwake_any _).mono ?_; rintro en w1 ⟨rfl, hw1⟩)
    go_ret
    exact ⟨rfl, hw1⟩
  have hfl : fs.length ≤ 10 := by omega
  have HF := Lib.hid hf
  clear hf
  go_enter Try.func6, Try.ntmps6
  go_wp2_with (go_at_call 11; refine (fieldsAwake_any _).mono ?_; rintro en w1 ⟨rfl, hw1⟩)
  go_loopw [4, 5] (fun v i wr => ∃ (k : Nat) (X : List UInt8) (aL : Option Addr) (cL : Nat), k ≤ fs.length ∧ i = .int .i64 (k : Int) ∧ v = .slice aL X.length cL ∧ Hid (X = (fs.take k).flatMap packX ∧ ∀ f ∈ fs.take k, Small f) ∧ wr.ownsRow w.heap.size 5 1 (.slice aL X.length cL) X.length (X.map byteV) ∧ Below w.heap.size w wr) (fun _ i _ => fs.length - (intOf i).toNat)
  case atStart => exact ⟨0, [], none, 0, by omega, rfl, rfl, ⟨by simp, by simp⟩, World.ownsRow_nil _ _ _ _, hw1⟩
  case round =>
    obtain ⟨k, X, aL, cL, hk, rfl, rfl, HX, hown, hw0⟩ := hrel
    by_cases hlt : k < fs.length
    · obtain ⟨b, off, an, cn, ad, cd, rfl, hblt, c0, c1, hin, hby⟩ := fields_cells HF.out hlt
      have hx0 := ((bcell hw0).1 _ _ hblt).trans c0
      have hx1 := ((bcell hw0).1 _ _ hblt).trans c1
      have HT := Lib.hid (flat_take hlt)
      have HM : Hid (∀ f, f ∈ fs.take (k + 1) → f ∈ fs.take k ∨ f = fs[k]'hlt) := fun f hm => by
        rw [List.take_succ_eq_append_getElem hlt] at hm
        rcases List.mem_append.1 hm with h | h
        · exact .inl h
        · exact .inr (List.mem_singleton.1 h)
      generalize (fs[k]'hlt) = f at hx0 hx1 HT HM hin hby c0 c1
      obtain ⟨ns, bs⟩ := f
      simp only at hx0 hx1 hin hby
      have hk0 : (0 : Int) ≤ (k : Int) := by omega
      have hk1 : (k : Int) < (fs.length : Int) := by omega
      have HP : Hid (∀ W, Below w.heap.size w W → Calls Try.prog 12 #[.agg #[.slice an ns.length cn, .slice ad bs.length cd]] W (RetRowE 5 1 (packB (ns, bs)).length ((packB (ns, bs)).map byteV) (packE (ns, bs)) W)) := fun W h => pack_any an cn ns ad cd bs W ⟨hin.cells.below h, hin.cap, hin.none_, hin.wf⟩ (hby.cells.below h) hby.none_
      clear c0 c1 hin hby
      by_cases he : packE (ns, bs) = 0
      rotate_left 1
      · generalize packE (ns, bs) = E at HP he
        generalize packB (ns, bs) = B at HP
        have he1 : (E != 0) = true := by simpa using he
        clear he
        go_wp2_with (go_at_call 12; refine (HP.out _ hw0).mono ?_; rintro en w2 ⟨a2, c2, rfl, own2, hb2⟩)
        go_ret
        exact ⟨rfl, hw0.trans (hb2.mono hw0.size)⟩
      rw [packB_eq he, he] at HP
      by_cases c20 : (20 : Int) < (ns.length : Int)
      · generalize packX (ns, bs) = B at HP
        clear he
        go_wp2_with (go_at_call 12; refine (HP.out _ hw0).mono ?_; rintro en w2 ⟨a2, c2, rfl, own2, hb2⟩; have hy0 := ((bcell (hw0.trans (hb2.mono hw0.size))).1 _ (off + k * 2) hblt).trans (((bcell hw0).1 _ _ hblt).symm.trans hx0); have hy1 := ((bcell (hw0.trans (hb2.mono hw0.size))).1 _ (off + k * 2 + 1) hblt).trans (((bcell hw0).1 _ _ hblt).symm.trans hx1))
        go_ret
        exact ⟨rfl, hw0.trans (hb2.mono hw0.size)⟩
      by_cases c200 : (200 : Int) < (bs.length : Int)
      · generalize packX (ns, bs) = B at HP
        clear he
        go_wp2_with (go_at_call 12; refine (HP.out _ hw0).mono ?_; rintro en w2 ⟨a2, c2, rfl, own2, hb2⟩; have hy0 := ((bcell (hw0.trans (hb2.mono hw0.size))).1 _ (off + k * 2) hblt).trans (((bcell hw0).1 _ _ hblt).symm.trans hx0); have hy1 := ((bcell (hw0.trans (hb2.mono hw0.size))).1 _ (off + k * 2 + 1) hblt).trans (((bcell hw0).1 _ _ hblt).symm.trans hx1))
        go_ret
        exact ⟨rfl, hw0.trans (hb2.mono hw0.size)⟩
      have hsm : Small (ns, bs) := ⟨he, by simp only; omega, by simp only; omega⟩
      have hBl := packX_small hsm.1 hsm.2.1 hsm.2.2
      have hXl : X.length ≤ 4000 := by
        have := flat_le HX.out.2
        rw [HX.out.1]
        rw [List.length_take] at this
        omega
      have HG : Hid (X ++ packX (ns, bs) = (fs.take (k + 1)).flatMap packX ∧ ∀ f ∈ fs.take (k + 1), Small f) := ⟨by rw [HT.out, HX.out.1], fun f hm => by
        rcases HM.out f hm with h | rfl
        · exact HX.out.2 f h
        · exact hsm⟩
      clear HX HT HM hsm he
      generalize packX (ns, bs) = B at HP HG hBl
      go_wp2_with (first
        | (go_at_call 12; refine (HP.out _ hw0).mono ?_; rintro en w2 ⟨a2, c2, rfl, own2, hb2⟩; have hw2 := hw0.trans (hb2.mono hw0.size); have hy0 := ((bcell hw2).1 _ (off + k * 2) hblt).trans (((bcell hw0).1 _ _ hblt).symm.trans hx0); have hy1 := ((bcell hw2).1 _ (off + k * 2 + 1) hblt).trans (((bcell hw0).1 _ _ hblt).symm.trans hx1); have hownX := own_below hown hb2)
        | (at_builtin; refine wpList_append_row rfl (.tmp 56) (.tmp 57) rfl elemB w.heap.size (.slice aL X.length cL) X.length (X.map byteV) (by rfl) hownX a2 B.length c2 (B.map byteV) (by rfl) (by simp) (RowAt.of_own own2) (byteV_one _) (by unfold maxLen; omega) (by omega) hw2.size (own_none own2) ?_; intro a3 c3 w3 own3 hg3 hat3; have hw3 := Below.appended hw2 hownX hg3 hw2.size (Nat.le_refl _); rw [← List.map_append] at own3))
      have hXB : (X ++ B).length = X.length + B.length := List.length_append
      go_roundw
      case rel => exact ⟨k + 1, X ++ B, a3, c3, by omega, by go_num, by rw [hXB], HG, by rw [hXB]; exact own3, hw3⟩
      case measure => simp [intOf]; omega
    · have hkf : k = fs.length := by omega
      have HSm : Hid (∀ f ∈ fs, Small f) := by have := HX.out.2; rwa [hkf, List.take_length] at this
      have HXA : Hid (X = fs.flatMap packX) := by have := HX.out.1; rwa [hkf, List.take_length] at this
      clear HX hkf
      go_wp2
      clear hlt
      go_loopw [4, 8] (fun v i wv => ∃ (q : Nat) (Y : List UInt8) (A : Option Addr) (cY : Nat), q ≤ fs.length ∧ i = .int .i64 (q : Int) ∧ v = .slice A Y.length cY ∧ Hid (Y = (fs.drop q).flatMap packX) ∧ CellsB wv A Y ∧ Y.length ≤ cY ∧ (A = none → Y.length = 0) ∧ Below w.heap.size w wv) (fun _ i _ => fs.length - (intOf i).toNat)
      case atStart => exact ⟨0, X, aL, cL, by omega, rfl, rfl, by rw [Hid, HXA.out, List.drop_zero], RowAt.of_own hown, own_le hown, own_none hown, hw0⟩
      case round =>
        clear hown hw0
        obtain ⟨q, Y, A, cY, hq, rfl, rfl, HY, hcY, hlY, hnY, hw0⟩ := hrel
        by_cases hlt : q < fs.length
        · obtain ⟨b, off, an, cn, ad, cd, rfl, hblt, c0, c1, hin, hby⟩ := fields_cells HF.out hlt
          have hx0 := ((bcell hw0).1 _ _ hblt).trans c0
          have hx1 := ((bcell hw0).1 _ _ hblt).trans c1
          have hYe := HY.out
          rw [flat_drop hlt] at hYe
          have hsm := HSm.out _ (List.getElem_mem hlt)
          have hYl : Y.length ≤ 4000 := by
            have := flat_le (fs := fs.drop q) (fun f hm => HSm.out f (List.mem_of_mem_drop hm))
            rw [← HY.out, List.length_drop] at this
            omega
          generalize (fs[q]'hlt) = f at hx0 hx1 hin hby c0 c1 hYe hsm
          obtain ⟨ns, bs⟩ := f
          simp only at hx0 hx1 hin hby
          have hq0 : (0 : Int) ≤ (q : Int) := by omega
          have hq1 : (q : Int) < (fs.length : Int) := by omega
          have hcp := cutP_put hsm.1 ((fs.drop (q + 1)).flatMap packX)
          rw [← hYe] at hcp
          have h20 : ns.length ≤ 20 := hsm.2.1
          have HYd : Hid (Y.drop (packX (ns, bs)).length = (fs.drop (q + 1)).flatMap packX) := by rw [Hid, hYe, List.drop_left]
          have hBY : (packX (ns, bs)).length ≤ Y.length := by rw [hYe, List.length_append]; omega
          simp only at hcp
          have HC : Hid (∀ W, Below w.heap.size w W → CellsB W A Y → Calls Try.prog 16 #[.slice A Y.length cY] W (RetCut (0, ns, bs, (packX (ns, bs)).length) W)) := fun W h h' => by
            have := cut_any A cY Y W h' hlY hnY (by omega)
            rwa [hcp] at this
          have HFl : Hid (FlIn w an ad ns bs) := ⟨hin.cells, hby.cells, hby.none_⟩
          have HS : Hid (∀ W A' cA D cD, FlIn W A' D ns bs → Below w.heap.size w W → Calls Try.prog 17 #[.agg #[.slice A' ns.length cA, .slice D bs.length cD], .agg #[.slice an ns.length cn, .slice ad bs.length cd]] W fun e w' => e = .returned (.bool true) ∧ Below W.heap.size W w') := fun W A' cA D cD h h' => sameF_eq A' cA D cD an cn ad cd ns bs W h (HFl.out.below h') (by omega)
          have hsl := fun W => slice_from A Y.length cY (packX (ns, bs)).length hBY W
          have hcut := hcY.cut cY (packX (ns, bs)).length hlY
          rw [HYd.out] at hcut
          have hcn := cutA_none (a := A) (cap := cY) (l := (packX (ns, bs)).length) (n := Y.length) hnY
          have hYd := congrArg List.length HYd.out
          rw [List.length_drop] at hYd
          have HYL := Lib.hid hYd
          have hBY' : ((packX (ns, bs)).length : Int) ≤ (Y.length : Int) := by omega
          have hcap : Y.length - (packX (ns, bs)).length ≤ cY - (packX (ns, bs)).length := Nat.sub_le_sub_right hlY _
          clear hsm hYe hcp hin hby c0 c1 HYd hYd
          generalize packX (ns, bs) = B at HC hsl hcut hcn HYL hBY hBY' hcap
          have HCut := Lib.hid hcut
          have HCn := Lib.hid hcn
          clear hcut hcn
          generalize cutA A cY B.length = A2 at hsl HCut HCn
          go_wp2_with (go_at_call 16; refine (HC.out _ hw0 hcY).mono ?_; rintro en w2 ⟨a2, c2, d2, e2, rfl, oi2, ob2, hb2⟩; have hw2 := hw0.trans (hb2.mono hw0.size); have hal := below1 w2 (.cells #[.slice a2 ns.length c2, .slice d2 bs.length e2] 25); have hv2 := hw2.alloc hw2.size (.cells #[.slice a2 ns.length c2, .slice d2 bs.length e2] 25); have fl2 : FlIn (w2.alloc (.cells #[.slice a2 ns.length c2, .slice d2 bs.length e2] 25)) a2 d2 ns bs := FlIn.below ⟨RowAt.of_own oi2, RowAt.of_own ob2, own_none ob2⟩ hal; have g2 := blk_new w2 (.cells #[.slice a2 ns.length c2, .slice d2 bs.length e2] 25); obtain ⟨hc0, hc1, _, _, hflt⟩ := box2 g2; have hy0 := ((bcell hv2).1 _ (off + q * 2) hblt).trans (((bcell hw0).1 _ _ hblt).symm.trans hx0); have hy1 := ((bcell hv2).1 _ (off + q * 2 + 1) hblt).trans (((bcell hw0).1 _ _ hblt).symm.trans hx1); have hbc := hb2.trans (hal.mono hb2.size))
          go_region_held3 (fun W => W.cell? ⟨w2.heap.size, 0, none⟩ = some (.slice a2 ns.length c2) ∧ W.cell? ⟨w2.heap.size, 1, none⟩ = some (.slice d2 bs.length e2) ∧ W.cell? ⟨b, off + q * 2, none⟩ = some (.slice an ns.length cn) ∧ W.cell? ⟨b, off + q * 2 + 1, none⟩ = some (.slice ad bs.length cd)) (first | exact ⟨jc0, jc1, jy0, jy1⟩ | exact ⟨hc0, hc1, hy0, hy1⟩) ((go_at_call 17; refine (HS.out _ _ _ _ _ (FlIn.below fl2 (below0 _).drew) hv2.drew).mono ?_; rintro en w3 ⟨rfl, hb3⟩; have hb3' : Below (w2.alloc (.cells #[.slice a2 ns.length c2, .slice d2 bs.length e2] 25)).heap.size (w2.alloc (.cells #[.slice a2 ns.length c2, .slice d2 bs.length e2] 25)) w3 := (below0 _).drew.trans (hb3.mono (Nat.le_refl _)); have hw3 := hv2.trans (hb3'.mono hv2.size); have jc0 := ((bcell hb3').1 _ _ hflt).trans hc0; have jc1 := ((bcell hb3').1 _ _ hflt).trans hc1; have jy0 := ((bcell hw3).1 _ (off + q * 2) hblt).trans (((bcell hw0).1 _ _ hblt).symm.trans hx0); have jy1 := ((bcell hw3).1 _ (off + q * 2 + 1) hblt).trans (((bcell hw0).1 _ _ hblt).symm.trans hx1); have hb13 := hbc.trans (hb3'.mono hbc.size)))
          go_wp2
          go_roundw
          case rel => exact ⟨q + 1, (fs.drop (q + 1)).flatMap packX, A2, cY - B.length, by omega, by go_num, by rw [HYL.out], rfl, HCut.out.below hb13, by rw [← HYL.out]; exact hcap, fun h => by rw [← HYL.out]; exact HCn.out h, hw3⟩
          case measure => simp [intOf]; omega
        · have hqf : q = fs.length := by omega
          have hY0 : Y = [] := by rw [HY.out, hqf, List.drop_length]; rfl
          subst hY0
          clear hqf HY
          go_wp2
          go_ret
          exact ⟨rfl, hw0⟩
end Go.Proofs.Ytipngfdibcapjaa
