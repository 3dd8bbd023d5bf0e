/-
  Layer 2's laws: FieldsOnce, FieldsShort, FieldsBack.
-/
import Derived.Test.YtipngfdibcapjaaFieldsY
namespace Go.Proofs.Ytipngfdibcapjaa
open Go.RowKit
set_option linter.unusedVariables false
theorem unpackP_fall {bs : List UInt8} (h : (unpackP bs).1 ≠ 0) : (unpackP bs).2 = ([], []) := by
  unfold unpackP at h ⊢
  by_cases c : (cutP bs).1 = 0 ∧ (cutP bs).2.2.2 ≠ bs.length
  · rw [if_pos c]
  · rw [if_neg c] at h ⊢
    have := cutP_fall (bs := bs) h
    simp [this]
theorem unpackP_back {bs : List UInt8} {ns : List Int} {d : List UInt8} (h : unpackP bs = (0, ns, d)) : packE (ns, d) = 0 ∧ bs = packX (ns, d) := by
  unfold unpackP at h
  by_cases c : (cutP bs).1 = 0 ∧ (cutP bs).2.2.2 ≠ bs.length
  · rw [if_pos c] at h; cases h
  · rw [if_neg c] at h
    injection h with h0 h
    injection h with h1 h2
    obtain ⟨g1, g2, rest, g3, g4⟩ := cutP_back (bs := bs) (ns := ns) (d := d) (n := (cutP bs).2.2.2) (by rw [← h1, ← h2]; exact Prod.ext h0 rfl)
    refine ⟨g1, ?_⟩
    have hn : (cutP bs).2.2.2 = bs.length := Classical.byContradiction fun hne => c ⟨h0, hne⟩
    have hl := congrArg List.length g3
    rw [List.length_append, ← g4, hn] at hl
    rw [List.eq_nil_of_length_eq_zero (show rest.length = 0 by omega), List.append_nil] at g3
    exact g3
theorem unpackP_put {f : Fl} (h : packE f = 0) : unpackP (packX f) = (0, f.1, f.2) := by
  have := cutP_put h []
  rw [List.append_nil] at this
  unfold unpackP
  rw [this, if_neg (by simp)]
theorem unpackP_short {bs : List UInt8} (h : cutP bs = (3, [], [], 0)) : unpackP bs = (3, [], []) := by
  unfold unpackP
  rw [h, if_neg (fun h => by cases h.1)]
theorem packX_le {f : Fl} (h : packE f = 0) : (packX f).length ≤ 7000 := by
  obtain ⟨h1, h2, h3⟩ := packE_zero h
  have := packX_length f
  have := sum_le (ns := f.1) h3
  omega
theorem wf_fair {n : Int} (h : 0 ≤ n ∧ n < 72057594037927936) : (Lit.int .i64 n).wf = true := by
  simp [Lit.wf, IntKind.min, IntKind.max, IntKind.bits, IntKind.signed]
  omega
set_option maxRecDepth 100000 in
set_option maxHeartbeats 6400000 in
theorem fieldsOnce_walk (a : Option Addr) (cap : Nat) (bs : List UInt8) (w : World) (hb : BytesIn w a cap bs) :
    Calls Try.prog 9 #[.slice a bs.length cap] w fun e w' => e = .returned (.bool true) ∧ Below w.heap.size w w' := by
  by_cases h1 : (6000 : Int) < (bs.length : Int)
  · clear hb
    go_enter Try.func9, Try.ntmps9
    go_wp2_with (go_at_call 11; refine (fieldsAwake_any _).mono ?_; rintro en w1 ⟨rfl, hw1⟩)
    go_ret
    exact ⟨rfl, hw1⟩
  have hlm : bs.length ≤ 1000000 := by omega
  have HU : Hid (∀ W, Below w.heap.size w W → Calls Try.prog 19 #[.slice a bs.length cap] W (RetUn (unpackP bs) W)) := fun W h => unpack_any a cap bs W (hb.cells.below h) hb.cap hb.none_ hlm
  by_cases he : (unpackP bs).1 = 0
  rotate_left 1
  · have hf := unpackP_fall he
    generalize unpackP bs = r at HU he hf
    obtain ⟨re, r1, r2⟩ := r
    simp only at he hf
    injection hf with hf1 hf2
    subst hf1 hf2
    have he1 : (re != 0) = true := by simpa using he
    clear hb he
    go_enter Try.func9, Try.ntmps9
    go_wp2_with (first
      | (go_at_call 11; refine (fieldsAwake_any _).mono ?_; rintro en w1 ⟨rfl, hw1⟩)
      | (go_at_call 19; refine (HU.out _ hw1).mono ?_; rintro en w2 ⟨a2, c2, d2, e2, rfl, oi2, ob2, hb2⟩; have hw2 := hw1.trans (hb2.mono hw1.size); obtain ⟨hc0, hc1, _, _, hlt⟩ := box2 (blk_new w2 (.cells #[.slice a2 (([] : List Int).length) c2, .slice d2 (([] : List UInt8).length) e2] 25))))
    go_ret
    exact ⟨rfl, hw2.alloc hw2.size _⟩
  obtain ⟨r, hr⟩ : ∃ r, unpackP bs = r := ⟨_, rfl⟩
  rw [hr] at HU he
  obtain ⟨re, ns, d⟩ := r
  simp only at he
  subst he
  obtain ⟨hpe, hpx⟩ := unpackP_back hr
  have h255 : ns.length ≤ 255 := (packE_zero hpe).1
  have HP : Hid (∀ W A c D e, CellsI W A ns → ns.length ≤ c → (A = none → ns.length = 0) → CellsB W D d → (D = none → d.length = 0) → Calls Try.prog 12 #[.agg #[.slice A ns.length c, .slice D d.length e]] W (RetRowE 5 1 bs.length (bs.map byteV) 0 W)) := fun W A c D e h1 h2 h3 h4 h5 => by
    have := pack_any A c ns D e d W ⟨h1, h2, h3, fun n hn => wf_fair ((packE_zero hpe).2.2 n hn)⟩ h4 h5
    rwa [packB_eq hpe, ← hpx, hpe] at this
  have HB := Lib.hid hb
  clear hb hr hpe hpx
  go_enter Try.func9, Try.ntmps9
  go_wp2_with (first
    | (go_at_call 11; refine (fieldsAwake_any _).mono ?_; rintro en w1 ⟨rfl, hw1⟩)
    | (go_at_call 19; refine (HU.out _ hw1).mono ?_; rintro en w2 ⟨a2, c2, d2, e2, rfl, oi2, ob2, hb2⟩; have hw2 := hw1.trans (hb2.mono hw1.size); have hb2' := below1 w2 (.cells #[.slice a2 ns.length c2, .slice d2 d.length e2] 25); have hw2' := hw2.alloc hw2.size (.cells #[.slice a2 ns.length c2, .slice d2 d.length e2] 25); obtain ⟨hc0, hc1, _, _, hlt⟩ := box2 (blk_new w2 (.cells #[.slice a2 ns.length c2, .slice d2 d.length e2] 25)))
    | (go_at_call 12; refine (HP.out _ _ _ _ _ (RowAt.of_own (own_below oi2 hb2')) (own_le oi2) (own_none oi2) (RowAt.of_own (own_below ob2 hb2')) (own_none ob2)).mono ?_; rintro en w3 ⟨a3, c3, rfl, own3, hb3⟩; have hw3 := hw2'.trans (hb3.mono hw2'.size); have hcv2 := run_convert_cells (bs := bs) c3 w3 (RowAt.of_own own3) (own_none own3); have hcv3 := run_convert_cells (bs := bs) cap w3 (HB.out.cells.below hw3) HB.out.none_))
  go_ret
  exact ⟨by simp, hw3⟩
set_option maxRecDepth 100000 in
set_option maxHeartbeats 6400000 in
theorem fieldsShort_walk (a : Option Addr) (c : Nat) (ns : List Int) (d : Option Addr) (cd : Nat) (bs : List UInt8) (cut : Int) (w : World) (hi : IntsIn w a c ns) (hb : BytesIn w d cd bs) :
    Calls Try.prog 10 #[.agg #[.slice a ns.length c, .slice d bs.length cd], .int .i64 cut] w fun e w' => e = .returned (.bool true) ∧ Below w.heap.size w w' := by
  by_cases h1 : (300 : Int) < (ns.length : Int)
  · clear hi hb
    go_enter Try.func10, Try.ntmps10
    go_wp2_with (go_at_call 11; refine (fieldsAwake_any _).mono ?_; rintro e w1 ⟨rfl, hd1⟩; obtain ⟨hc0, hc1, _, _, _⟩ := two_cells hd1)
    go_ret
    exact ⟨rfl, alloc_below hd1⟩
  by_cases h2 : (5000 : Int) < (bs.length : Int)
  · clear hi hb
    go_enter Try.func10, Try.ntmps10
    go_wp2_with (go_at_call 11; refine (fieldsAwake_any _).mono ?_; rintro e w1 ⟨rfl, hd1⟩; obtain ⟨hc0, hc1, _, _, _⟩ := two_cells hd1)
    go_ret
    exact ⟨rfl, alloc_below hd1⟩
  by_cases h3 : cut < 0
  · clear hi hb
    go_enter Try.func10, Try.ntmps10
    go_wp2_with (go_at_call 11; refine (fieldsAwake_any _).mono ?_; rintro e w1 ⟨rfl, hd1⟩; obtain ⟨hc0, hc1, _, _, _⟩ := two_cells hd1)
    go_ret
    exact ⟨rfl, alloc_below hd1⟩
  have HP : Hid (∀ W, Below w.heap.size w W → Calls Try.prog 12 #[.agg #[.slice a ns.length c, .slice d bs.length cd]] W (RetRowE 5 1 (packB (ns, bs)).length ((packB (ns, bs)).map byteV) (packE (ns, bs)) W)) := fun W h => pack_any a c ns d cd bs W ⟨hi.cells.below h, hi.cap, hi.none_, hi.wf⟩ (hb.cells.below h) hb.none_
  by_cases he : packE (ns, bs) = 0
  rotate_left 1
  · generalize packE (ns, bs) = E at HP he
    generalize packB (ns, bs) = B at HP
    have he1 : (E != 0) = true := by simpa using he
    clear hi hb he
    go_enter Try.func10, Try.ntmps10
    go_wp2_with (first
      | (go_at_call 11; refine (fieldsAwake_any _).mono ?_; rintro en w1 ⟨rfl, hd1⟩; have hb1 := alloc_below hd1; have g1 := blk_keep hd1 (blk_new w _); obtain ⟨hc0, hc1, _, _, hlt1⟩ := box2 g1)
      | (go_at_call 12; refine (HP.out _ hb1).mono ?_; rintro en w2 ⟨a2, c2, rfl, own2, hd2⟩; have hb2 := hb1.trans (hd2.mono hb1.size); have g2 := blk_keep hd2 g1; obtain ⟨hc0, hc1, _, _, hlt2⟩ := box2 g2))
    go_ret
    exact ⟨rfl, hb2⟩
  rw [packB_eq he, he] at HP
  obtain ⟨k, rfl⟩ : ∃ k : Nat, cut = (k : Int) := ⟨cut.toNat, by omega⟩
  have hle := packX_le he
  by_cases hk : (packX (ns, bs)).length ≤ k
  · generalize packX (ns, bs) = B at HP hk
    have hk' : (B.length : Int) ≤ (k : Int) := by omega
    clear hi hb he hk hle
    go_enter Try.func10, Try.ntmps10
    go_wp2_with (first
      | (go_at_call 11; refine (fieldsAwake_any _).mono ?_; rintro en w1 ⟨rfl, hd1⟩; have hb1 := alloc_below hd1; have g1 := blk_keep hd1 (blk_new w _); obtain ⟨hc0, hc1, _, _, hlt1⟩ := box2 g1)
      | (go_at_call 12; refine (HP.out _ hb1).mono ?_; rintro en w2 ⟨a2, c2, rfl, own2, hd2⟩; have hb2 := hb1.trans (hd2.mono hb1.size); have g2 := blk_keep hd2 g1; obtain ⟨hc0, hc1, _, _, hlt2⟩ := box2 g2))
    go_ret
    exact ⟨rfl, hb2⟩
  have hcs : cutP ((packX (ns, bs)).take k) = (3, [], [], 0) := cutP_short he (List.take_append_drop k _).symm (by rw [List.length_drop]; omega)
  have hus := unpackP_short hcs
  generalize packX (ns, bs) = B at HP hk hle hcs hus
  have hkl : (B.take k).length = k := by rw [List.length_take]; omega
  have HC : Hid (∀ W A cA, CellsB W A B → B.length ≤ cA → (A = none → B.length = 0) → Calls Try.prog 16 #[.slice A k cA] W (RetCut (3, [], [], 0) W)) := fun W A cA h1 h2 h3 => by
    have := cut_any A cA (B.take k) W (h1.take k) (by omega) (fun h => by have := h3 h; omega) (by omega)
    rwa [hkl, hcs] at this
  have HU : Hid (∀ W A cA, CellsB W A B → B.length ≤ cA → (A = none → B.length = 0) → Calls Try.prog 19 #[.slice A k cA] W (RetUn (3, [], []) W)) := fun W A cA h1 h2 h3 => by
    have := unpack_any A cA (B.take k) W (h1.take k) (by omega) (fun h => by have := h3 h; omega) (by omega)
    rwa [hkl, hus] at this
  have hk' : (k : Int) < (B.length : Int) := by omega
  have hk0 : (0 : Int) ≤ (k : Int) := by omega
  have hkB : k ≤ B.length := by omega
  have HkB := Lib.hid hkB
  clear hi hb he hk hle hcs hus hkl hkB
  go_enter Try.func10, Try.ntmps10
  go_wp2_with (first
    | (go_at_call 11; refine (fieldsAwake_any _).mono ?_; rintro en w1 ⟨rfl, hd1⟩; have hb1 := alloc_below hd1; have g1 := blk_keep hd1 (blk_new w _); obtain ⟨hc0, hc1, _, _, hlt1⟩ := box2 g1)
    | (go_at_call 12; refine (HP.out _ hb1).mono ?_; rintro en w2 ⟨a2, c2, rfl, own2, hd2⟩; have hb2 := hb1.trans (hd2.mono hb1.size); have g2 := blk_keep hd2 g1; obtain ⟨hc0, hc1, _, _, hlt2⟩ := box2 g2; have hs1 := fun W => slice_to a2 B.length c2 k (Nat.le_trans HkB.out (own_le own2)) W)
    | (go_at_call 16; refine (HC.out _ _ _ (RowAt.of_own own2) (own_le own2) (own_none own2)).mono ?_; rintro en w3 ⟨a3, c3, d3, e3, rfl, oi3, ob3, hb3⟩; have hw3 := hb2.trans (hb3.mono hb2.size); have own4 := own_below (own_below own2 hb3) (below1 w3 (.cells #[.slice a3 0 c3, .slice d3 0 e3] 25)); have hw3' := hw3.alloc hw3.size (.cells #[.slice a3 0 c3, .slice d3 0 e3] 25))
    | (go_at_call 19; refine (HU.out _ _ _ (RowAt.of_own own4) (own_le own4) (own_none own4)).mono ?_; rintro en w4 ⟨a4, c4, d4, e4, rfl, oi4, ob4, hb4⟩; have hw4 := hw3'.trans (hb4.mono hw3'.size)))
  go_ret
  exact ⟨by simp, hw4.alloc hw4.size _⟩
set_option maxRecDepth 100000 in
set_option maxHeartbeats 6400000 in
theorem fieldsBack_walk (a : Option Addr) (c : Nat) (ns : List Int) (d : Option Addr) (cd : Nat) (bs : List UInt8) (m : Option Addr) (cm : Nat) (ms : List UInt8) (w : World) (hi : IntsIn w a c ns) (hb : BytesIn w d cd bs) (hm : BytesIn w m cm ms) :
    Calls Try.prog 8 #[.agg #[.slice a ns.length c, .slice d bs.length cd], .slice m ms.length cm] w fun e w' => e = .returned (.bool true) ∧ Below w.heap.size w w' := by
  by_cases h1 : (300 : Int) < (ns.length : Int)
  · clear hi hb hm
    go_enter Try.func8, Try.ntmps8
    go_wp2_with (go_at_call 11; refine (fieldsAwake_any _).mono ?_; rintro e w1 ⟨rfl, hd1⟩; obtain ⟨hc0, hc1, _, _, _⟩ := two_cells hd1)
    go_ret
    exact ⟨rfl, alloc_below hd1⟩
  by_cases h2 : (5000 : Int) < (bs.length : Int)
  · clear hi hb hm
    go_enter Try.func8, Try.ntmps8
    go_wp2_with (go_at_call 11; refine (fieldsAwake_any _).mono ?_; rintro e w1 ⟨rfl, hd1⟩; obtain ⟨hc0, hc1, _, _, _⟩ := two_cells hd1)
    go_ret
    exact ⟨rfl, alloc_below hd1⟩
  by_cases h3 : (1000 : Int) < (ms.length : Int)
  · clear hi hb hm
    go_enter Try.func8, Try.ntmps8
    go_wp2_with (go_at_call 11; refine (fieldsAwake_any _).mono ?_; rintro e w1 ⟨rfl, hd1⟩; obtain ⟨hc0, hc1, _, _, _⟩ := two_cells hd1)
    go_ret
    exact ⟨rfl, alloc_below hd1⟩
  have HP : Hid (∀ W, Below w.heap.size w W → Calls Try.prog 12 #[.agg #[.slice a ns.length c, .slice d bs.length cd]] W (RetRowE 5 1 (packB (ns, bs)).length ((packB (ns, bs)).map byteV) (packE (ns, bs)) W)) := fun W h => pack_any a c ns d cd bs W ⟨hi.cells.below h, hi.cap, hi.none_, hi.wf⟩ (hb.cells.below h) hb.none_
  by_cases he : packE (ns, bs) = 0
  rotate_left 1
  · rw [packB_none he] at HP
    generalize packE (ns, bs) = E at HP he
    have he1 : (E != 0) = true := by simpa using he
    clear hi hb he hm
    go_enter Try.func8, Try.ntmps8
    go_wp2_with (first
      | (go_at_call 11; refine (fieldsAwake_any _).mono ?_; rintro en w1 ⟨rfl, hd1⟩; have hb1 := alloc_below hd1; have g1 := blk_keep hd1 (blk_new w _); obtain ⟨hc0, hc1, _, _, hlt1⟩ := box2 g1)
      | (go_at_call 12; refine (HP.out _ hb1).mono ?_; rintro en w2 ⟨a2, c2, rfl, own2, hd2⟩; have hb2 := hb1.trans (hd2.mono hb1.size); have g2 := blk_keep hd2 g1; obtain ⟨hc0, hc1, _, _, hlt2⟩ := box2 g2))
    go_ret
    exact ⟨rfl, hb2⟩
  rw [packB_eq he, he] at HP
  have hle := packX_le he
  have hcp := cutP_put he ms
  have hup := unpackP_put he
  generalize packX (ns, bs) = B at HP hle hcp hup
  simp only at hcp hup
  have h255 : ns.length ≤ 255 := (packE_zero he).1
  have HU : Hid (∀ W A cA, CellsB W A B → B.length ≤ cA → (A = none → B.length = 0) → Calls Try.prog 19 #[.slice A B.length cA] W (RetUn (0, ns, bs) W)) := fun W A cA h1 h2 h3 => by
    have := unpack_any A cA B W h1 h2 h3 (by omega)
    rwa [hup] at this
  have HC : Hid (∀ W A cA, CellsB W A (B ++ ms) → B.length + ms.length ≤ cA → (A = none → B.length + ms.length = 0) → Calls Try.prog 16 #[.slice A (B.length + ms.length) cA] W (RetCut (0, ns, bs, B.length) W)) := fun W A cA h1 h2 h3 => by
    have := cut_any A cA (B ++ ms) W h1 (by rw [List.length_append]; exact h2) (by rw [List.length_append]; exact h3) (by rw [List.length_append]; omega)
    rwa [hcp, List.length_append] at this
  have HF : Hid (FlIn w a d ns bs) := ⟨hi.cells, hb.cells, hb.none_⟩
  have HS : Hid (∀ W A cA D cD, FlIn W A D ns bs → Below w.heap.size w W → Calls Try.prog 17 #[.agg #[.slice A ns.length cA, .slice D bs.length cD], .agg #[.slice a ns.length c, .slice d bs.length cd]] W fun e w' => e = .returned (.bool true) ∧ Below W.heap.size W w') := fun W A cA D cD h h' => sameF_eq A cA D cD a c d cd ns bs W h (HF.out.below h') (by omega)
  have HM := Lib.hid hm
  have hm1000 : ms.length ≤ 1000 := by omega
  clear hi hb hm he hcp hup
  go_enter Try.func8, Try.ntmps8
  go_wp2_with (first
    | (go_at_call 11; refine (fieldsAwake_any _).mono ?_; rintro en w1 ⟨rfl, hd1⟩; have hb1 := alloc_below hd1; have g1 := blk_keep hd1 (blk_new w _); obtain ⟨hc0, hc1, _, _, hlt1⟩ := box2 g1)
    | (go_at_call 12; refine (HP.out _ hb1).mono ?_; rintro en w2 ⟨a2, c2, rfl, own2, hd2⟩; have hb2 := hb1.trans (hd2.mono hb1.size); have g2 := blk_keep hd2 g1; obtain ⟨hc0, hc1, _, _, hlt2⟩ := box2 g2)
    | (go_at_call 19; refine (HU.out _ _ _ (RowAt.of_own own2) (own_le own2) (own_none own2)).mono ?_; rintro en w3 ⟨a3, c3, d3, e3, rfl, oi3, ob3, hb3⟩; have hw3 := hb2.trans (hb3.mono hb2.size); have own3 := own_below (own_below own2 hb3) (below1 w3 (.cells #[.slice a3 ns.length c3, .slice d3 bs.length e3] 25)); have fl3 : FlIn (w3.alloc (.cells #[.slice a3 ns.length c3, .slice d3 bs.length e3] 25)) a3 d3 ns bs := FlIn.below ⟨RowAt.of_own oi3, RowAt.of_own ob3, own_none ob3⟩ (below1 w3 (.cells #[.slice a3 ns.length c3, .slice d3 bs.length e3] 25)); have g3 := blk_alloc (blk_keep hb3 g2) (.cells #[.slice a3 ns.length c3, .slice d3 bs.length e3] 25); have k3 := blk_new w3 (.cells #[.slice a3 ns.length c3, .slice d3 bs.length e3] 25); have hv3 := hw3.alloc hw3.size (.cells #[.slice a3 ns.length c3, .slice d3 bs.length e3] 25))
    | (at_builtin; refine wpList_append_row rfl (.const (.slice none 0 0)) (.tmp 52) rfl elemB (w3.alloc (.cells #[.slice a3 ns.length c3, .slice d3 bs.length e3] 25)).heap.size (.slice none 0 0) 0 [] (by rfl) (World.ownsRow_nil _ _ _ _) a2 B.length c2 (B.map byteV) (by rfl) (by simp) (RowAt.of_own own3) (byteV_one _) (by unfold maxLen; omega) (by omega) (Nat.le_refl _) (own_none own2) ?_; intro a4 c4 w4 own4 hg4 hat4; simp only [Nat.zero_add, List.nil_append] at own4; have hq4 := Below.appended (below0 (w3.alloc (.cells #[.slice a3 ns.length c3, .slice d3 bs.length e3] 25))) (World.ownsRow_nil (w3.alloc (.cells #[.slice a3 ns.length c3, .slice d3 bs.length e3] 25)) (w3.alloc (.cells #[.slice a3 ns.length c3, .slice d3 bs.length e3] 25)).heap.size 5 1) hg4 (Nat.le_refl _) (Nat.le_refl _); have hv4 := hv3.trans (hq4.mono hv3.size); have hsz4 := hq4.size)
    | (at_builtin; refine wpList_append_row rfl (.tmp 53) (.tmp 54) rfl elemB (w3.alloc (.cells #[.slice a3 ns.length c3, .slice d3 bs.length e3] 25)).heap.size (.slice a4 B.length c4) B.length (B.map byteV) (by rfl) own4 m ms.length cm (ms.map byteV) (by rfl) (by simp) (HM.out.cells.below hv4) (byteV_one _) (by unfold maxLen; omega) (by omega) hsz4 HM.out.none_ ?_; intro a5 c5 w5 own5 hg5 hat5; have hq5 := Below.appended hq4 own4 hg5 hsz4 (Nat.le_refl _); have hv5 := hv3.trans (hq5.mono hv3.size); have fl5 := fl3.below hq5; have g5 := blk_keep hq5 g3; have k5 := blk_keep hq5 k3; rw [← List.map_append] at own5)
    | (go_at_call 16; refine (HC.out _ _ _ (RowAt.of_own own5) (own_le own5) (own_none own5)).mono ?_; rintro en w6 ⟨a6, c6, d6, e6, rfl, oi6, ob6, hb6⟩; have hw6 := hv5.trans (hb6.mono hv5.size); have fl6 : FlIn (w6.alloc (.cells #[.slice a6 ns.length c6, .slice d6 bs.length e6] 25)) a6 d6 ns bs := FlIn.below ⟨RowAt.of_own oi6, RowAt.of_own ob6, own_none ob6⟩ (below1 w6 (.cells #[.slice a6 ns.length c6, .slice d6 bs.length e6] 25)); have fl7 := (fl5.below hb6).below (below1 w6 (.cells #[.slice a6 ns.length c6, .slice d6 bs.length e6] 25)); have g6 := blk_alloc (blk_keep hb6 g5) (.cells #[.slice a6 ns.length c6, .slice d6 bs.length e6] 25); have k6 := blk_alloc (blk_keep hb6 k5) (.cells #[.slice a6 ns.length c6, .slice d6 bs.length e6] 25); have h6 := blk_new w6 (.cells #[.slice a6 ns.length c6, .slice d6 bs.length e6] 25); have hv6 := hw6.alloc hw6.size (.cells #[.slice a6 ns.length c6, .slice d6 bs.length e6] 25); obtain ⟨hc0, hc1, _, _, _⟩ := box2 g6; obtain ⟨kc0, kc1, _, _, _⟩ := box2 k6; obtain ⟨jc0, jc1, _, _, _⟩ := box2 h6)
    | (go_at_call 17; (with_reducible refine (HS.out _ _ _ _ _ fl7 hv6).mono ?_); rintro en w7 ⟨rfl, hb7⟩; have hv7 := hv6.trans (hb7.mono hv6.size); have fl8 := fl6.below hb7; obtain ⟨hc0, hc1, _, _, _⟩ := box2 (blk_keep hb7 g6); obtain ⟨jc0, jc1, _, _, _⟩ := box2 (blk_keep hb7 h6))
    | (go_at_call 17; (with_reducible refine (HS.out _ _ _ _ _ fl8 hv7).mono ?_); rintro en w8 ⟨rfl, hb8⟩; have hv8 := hv7.trans (hb8.mono hv7.size)))
  go_ret
  exact ⟨by simp, hv8⟩
end Go.Proofs.Ytipngfdibcapjaa
