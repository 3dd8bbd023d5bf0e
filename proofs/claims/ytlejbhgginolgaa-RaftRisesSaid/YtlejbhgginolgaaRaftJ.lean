/-
  A member beats, and takes a command.
-/
import Derived.Test.YtlejbhgginolgaaRaftI
namespace Go.Proofs.Ytlejbhgginolgaa
open Go.RowKit
set_option linter.unusedVariables false
/-- A command's index, what is said, and an error. -/
def RetP (r : Mb × Int × List Ms × Int) (b : Nat) (a : MA) (w : World) (en : Ending) (w' : World) : Prop :=
  ∃ a' B A c sl, en = .returned (.tuple #[.int .i64 r.2.1, .slice A r.2.2.1.length c, .int .i64 r.2.2.2]) ∧ MAt w' b a' r.1 ∧ Step w b a w' a' ∧ w.heap.size ≤ B ∧ (∀ x ∈ foot b a', x < B) ∧ MsAt w' B A c r.2.2.1 sl
theorem RetP.nil {w w' : World} {b : Nat} {a a' : MA} {m' : Mb} (e : Int) (h : MAt w' b a' m') (hs : Step w b a w' a') : RetP (m', 0, [], e) b a w (.returned (.tuple #[.int .i64 0, .slice none 0 0, .int .i64 e])) w' := ⟨a', w'.heap.size, none, 0, [], rfl, h, hs, hs.chg.size, h.lt, MsAt.nil _ _⟩
section
variable {w : World} {b : Nat} {a : MA} {m : Mb}
theorem beat_any (h : MAt w b a m) (hok : MbOk m) : Calls Try.prog 39 #[.pointer (some ⟨b, 0, none⟩)] w (RetR m.beat.1 m.beat.2 b a w) := by
  obtain ⟨c0, c1, c2, c3, c4, c5, c6, c7, c8, c9, hlt⟩ := box10 h.blk
  have HO := Lib.hid h
  by_cases hr : m.role = 2
  · have hr1 : (m.role != 2) = false := by simp [hr]
    have HB : Hid (m.beat = (m, m.adds)) := by rw [Hid, Mb.beat, if_pos hr]
    have HA := Lib.hid (adds_any h hok)
    clear hr
    go_enter Try.func39, Try.ntmps39
    go_wp2_with (go_at_call 27; refine HA.out.mono ?_; rintro e w1 ⟨A1, cc1, sl1, rfl, hms1, hb1⟩)
    go_ret
    rw [HB.out]
    exact ⟨a, w.heap.size, A1, cc1, sl1, rfl, HO.out.below hb1, .of_below hb1, Nat.le_refl _, HO.out.lt, hms1⟩
  · have hr1 : (m.role != 2) = true := by simpa using hr
    have HB : Hid (m.beat = (m, [])) := by rw [Hid, Mb.beat, if_neg hr]
    clear hr
    go_enter Try.func39, Try.ntmps39
    go_wp2
    go_ret
    rw [HB.out]
    exact RetR.nil HO.out (Step.refl _ _ _)
set_option maxRecDepth 100000 in
set_option maxHeartbeats 6400000 in
theorem propose_any (h : MAt w b a m) (hok : MbOk m) (c : Cm) : Calls Try.prog 16 #[.pointer (some ⟨b, 0, none⟩), cmV c] w (RetP (m.propose c) b a w) := by
  have hal := below1 w (.cells #[.int .i64 c.1, .int .i64 c.2.1, .int .i64 c.2.2.1, .int .i64 c.2.2.2.1, .int .i64 c.2.2.2.2.1, .int .i64 c.2.2.2.2.2] 45)
  have HA := Lib.hid (h.below hal)
  obtain ⟨c0, c1, c2, c3, c4, c5, c6, c7, c8, c9, hlt⟩ := box10 (h.below hal).blk
  by_cases hr : m.role = 2
  rotate_left 1
  · have hr1 : (m.role != 2) = true := by simpa using hr
    have HB : Hid (m.propose c = (m, 0, [], 8)) := by rw [Hid, Mb.propose, if_pos hr]
    clear hr
    go_enter Try.func16, Try.ntmps16
    go_wp2
    refine bodyPost_ret (v := .tuple #[.int .i64 0, .slice none 0 0, .int .i64 8]) (by simp [results, Try.results16, go_sem]) rfl ?_
    rw [HB.out]
    exact RetP.nil 8 HA.out (.of_below hal)
  have ht := hok.live (by omega)
  have hr1 : (m.role != 2) = false := by simp [hr]
  by_cases hf : 64 ≤ m.log.length
  · have HB : Hid (m.propose c = (m, 0, [], 7)) := by rw [Hid, Mb.propose, if_neg (by simpa using hr), if_pos hf]
    have HP := Lib.hid (put_full HA.out c hf)
    rw [show m.put c = m from if_pos hf] at HP
    clear hr hf
    go_enter Try.func16, Try.ntmps16
    go_wp2_with (go_at_call 30; refine HP.out.mono ?_; rintro e w1 ⟨a1, rfl, H1, S1⟩)
    refine bodyPost_ret (v := .tuple #[.int .i64 0, .slice none 0 0, .int .i64 7]) (by simp [results, Try.results16, go_sem]) rfl ?_
    rw [HB.out]
    exact RetP.nil 7 H1 (S1.pre hal)
  have HB : Hid (m.propose c = (m.took c, (lastF 0 0 (m.took c).log).1, (m.took c).adds, 0)) := by rw [Hid, Mb.propose, if_neg (by simpa using hr), if_neg hf]
  have HP := Lib.hid (put_room HA.out c (by omega))
  obtain ⟨id0, hid⟩ : ∃ i : Nat, m.id = (i : Int) + 1 := ⟨(m.id - 1).toNat, by have := hok.id1; omega⟩
  have hidn : id0 < m.prog.length := by have := hok.idn; omega
  have n16 := hok.n16
  have HOKP := Lib.hid (hok.put ht c)
  have hlp : (m.put c).prog.length = m.prog.length := by unfold Mb.put; split <;> rfl
  have hidp : (m.put c).id = m.id := by unfold Mb.put; split <;> rfl
  rw [hid] at hidp
  have HMARK : Hid ((m.put c).mark = (m.put c).setPr ((id0 : Int) + 1) ((lastF 0 0 (m.put c).log).1, ((m.put c).prAt ((id0 : Int) + 1)).2)) := by rw [Hid, ← hidp]; rfl
  have hX2 : 0 ≤ (lastF 0 0 (m.put c).log).1 ∧ (lastF 0 0 (m.put c).log).1 ≤ 64 := by rw [HOKP.out.lastF]; have := HOKP.out.len64; simp only; omega
  have HTOOK : Hid (m.took c = ((m.put c).mark).settle) := rfl
  generalize m.put c = mp at *
  obtain ⟨hX2, hX3⟩ := hX2
  have hi0 : (0 : Int) ≤ (id0 : Int) := by omega
  have hi1 : (id0 : Int) < (m.prog.length : Int) := by omega
  have hi2 : (id0 : Int) + 1 ≤ 16 := by omega
  have HIDP := Lib.hid hidp
  have HLP := Lib.hid hlp
  have hwr2 : IntKind.i64.wrap (id0 : Int) = (id0 : Int) := wrap_id (by omega) (by omega)
  clear hidp hlp hid hr hf
  go_enter Try.func16, Try.ntmps16
  go_wp2_with (go_at_call 30; refine HP.out.mono ?_; rintro e w1 ⟨a1, rfl, H1, S1⟩; have HLT2 := Lib.hid (mlast_any (H1.drew)); have hc0 := H1.c0 HIDP.out; have hc9 := H1.c9 HLP.out; have hbl := blk_lt H1.blk)
  go_region_law (first
    | (go_simp; go_at_call 31; refine HLT2.out.mono ?_; rintro e w2 ⟨rfl, hb2⟩; have H2 := H1.drew.below hb2; have e0 := H2.c0 HIDP.out; have e9 := H2.c9 HLP.out; have fo0 := own_frozen H2.prog (id0 * 2); have co0 := own_cell H2.prog (prV_at (k := id0) (by rw [HLP.out]; exact hidn)).1; (try go_simp)))
  all_goals (
    have HM4 : MAt (w2.setCell ⟨a1.oa, id0 * 2, none⟩ (.int .i64 (lastF 0 0 mp.log).1)) b a1 mp.mark := by rw [HMARK.out]; exact H2.setMatch id0 (by rw [HLP.out]; exact hidn) _
    have S4 := (((S1.pre hal).drew).below hb2).storeO (id0 * 2) (.int .i64 (lastF 0 0 mp.log).1)
    have HSET := Lib.hid (settle_any HM4 HOKP.out.mark)
    rw [← HTOOK.out] at HSET
    have HOKT := Lib.hid (HOKP.out.mark.settle)
    rw [← HTOOK.out] at HOKT
    generalize m.took c = mt at HSET HOKT HB
    clear hwr2 hc0 hc9 e0 e9 fo0 co0
    go_wp2_with (first
      | (go_at_call 32; refine HSET.out.mono ?_; rintro e w5 ⟨a5, rfl, H5, S5⟩; have S6 := S4.trans S5; have HL5 := Lib.hid (mlast_any H5))
      | (go_at_call 31; with_reducible refine HL5.out.mono ?_; rintro e w6 ⟨rfl, hb6⟩; have HADDS := Lib.hid (adds_any (H5.below hb6) HOKT.out))
      | (go_at_call 27; refine HADDS.out.mono ?_; rintro e w7 ⟨A7, c7, sl7, rfl, hms7, hb7⟩))
    refine bodyPost_ret (v := .tuple #[.int .i64 (lastF 0 0 mt.log).1, .slice A7 mt.adds.length c7, .int .i64 0]) (by simp [results, Try.results16, go_sem, Mb.adds]) rfl ?_
    rw [HB.out]
    exact ⟨a5, w6.heap.size, A7, c7, sl7, rfl, (H5.below hb6).below hb7, (S6.below hb6).below hb7, (S6.below hb6).chg.size, (H5.below hb6).lt, hms7⟩)
end
end Go.Proofs.Ytlejbhgginolgaa
