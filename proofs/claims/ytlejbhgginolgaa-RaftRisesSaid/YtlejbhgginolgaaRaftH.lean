/-
  A member begins to lead.
-/
import Derived.Test.YtlejbhgginolgaaRaftG
namespace Go.Proofs.Ytlejbhgginolgaa
open Go.RowKit
set_option linter.unusedVariables false
theorem MAt.c9 {w : World} {b : Nat} {a : MA} {m : Mb} (h : MAt w b a m) {n : Nat} (hl : m.prog.length = n) : w.cell? ⟨b, 9, none⟩ = some (.slice (some ⟨a.oa, 0, none⟩) n a.oc) := by subst hl; exact blk_cell h.blk 9
theorem MAt.c0 {w : World} {b : Nat} {a : MA} {m : Mb} (h : MAt w b a m) {i : Int} (hl : m.id = i) : w.cell? ⟨b, 0, none⟩ = some (.int .i64 i) := by subst hl; exact blk_cell h.blk 0
section
variable {w : World} {b : Nat} {a : MA} {m : Mb}
set_option maxRecDepth 100000 in
set_option maxHeartbeats 6400000 in
theorem lead_any (h : MAt w b a m) (hok : MbOk m) (ht : 1 ≤ m.term) : Calls Try.prog 26 #[.pointer (some ⟨b, 0, none⟩)] w (RetR m.lead m.lead.adds b a w) := by
  have n1 := hok.n1
  have n16 := hok.n16
  obtain ⟨id0, hid⟩ : ∃ i : Nat, m.id = (i : Int) + 1 := ⟨(m.id - 1).toNat, by have := hok.id1; omega⟩
  have hidn : id0 < m.prog.length := by have := hok.idn; omega
  have HLT : Hid (∀ W (mk : Mb), MAt W b a mk → mk.log = m.log → Calls Try.prog 31 #[.pointer (some ⟨b, 0, none⟩)] W fun e w' => e = .returned (.int .i64 (lastF 0 0 m.log).1) ∧ Below W.heap.size W w') := fun W mk hW hl => by have := mlast_any hW; rwa [hl] at this
  have hX : 0 ≤ (lastF 0 0 m.log).1 ∧ (lastF 0 0 m.log).1 ≤ 64 := by rw [hok.lastF]; have := hok.len64; simp only; omega
  have HCL := Lib.hid (clearTo_all m)
  have hs0 := h.store 6 (.int .i64 2) (m' := { m with role := 2 }) rfl rfl rfl rfl
  rw [← clearTo_zero m ((lastF 0 0 m.log).1 + 1)] at hs0
  have hst0 : Step w b a (w.setCell ⟨b, 6, none⟩ (.int .i64 2)) a := (Step.refl w b a).store 6 _
  generalize (lastF 0 0 m.log).1 = X at HLT hX HCL hs0
  obtain ⟨hX0, hX1⟩ := hX
  have HS0 := Lib.hid hs0
  clear hs0
  have HID := Lib.hid hid
  clear hid
  obtain ⟨c0, c1, c2, c3, c4, c5, c6, c7, c8, c9, hlt⟩ := box10 h.blk
  obtain ⟨fr0, fr1, fr2, fr3, fr4, fr5, fr6, fr7, fr8, fr9⟩ := fro9 h.blk
  go_enter Try.func26, Try.ntmps26
  go_wp2
  clear c0 c1 c2 c3 c4 c5 c6 c7 c8 c9 hlt fr0 fr1 fr2 fr3 fr4 fr5 fr6 fr7 fr8 fr9
  go_loopw [12] (fun i wr => ∃ k : Nat, k ≤ m.prog.length ∧ i = .int .i64 (k : Int) ∧ Hid (MAt wr b a (clearTo m (X + 1) k)) ∧ Step w b a wr a) (fun i _ => m.prog.length - (intOf i).toNat)
  case atStart => exact ⟨0, by omega, rfl, HS0, hst0⟩
  case round =>
    obtain ⟨k, hk, rfl, HM, hst⟩ := hrel
    by_cases hlt : k < m.prog.length
    · have hlk := clearTo_len m (X + 1) k (by omega)
      have HSUC := Lib.hid (clearTo_succ m (X + 1) k hlt)
      have HB1 := Lib.hid HM.out.blk
      have hblk : wr.heap[b]? = some (.cells #[.int .i64 m.id, .int .i64 m.term, .int .i64 m.vote, .int .i64 0, .int .i64 0, .slice a.la m.log.length a.lc, .int .i64 2, .int .i64 m.settled, .map (some a.vb), .slice (some ⟨a.oa, 0, none⟩) m.prog.length a.oc] 66) := by have := HB1.out; simp only [mbC, hlk] at this; exact this
      obtain ⟨c0, c1, c2, c3, c4, c5, c6, c7, c8, c9, hltb⟩ := box10 hblk
      have HLK := Lib.hid hlk
      clear hblk hlk
      have hk0 : (0 : Int) ≤ (k : Int) := by omega
      have hk1 : (k : Int) < (m.prog.length : Int) := by omega
      have hk2 : (k : Int) ≤ 16 := by omega
      have HL1 := Lib.hid (HLT.out wr.drew (clearTo m (X + 1) k) HM.out.drew rfl)
      have hwr : IntKind.i64.wrap (X + 1) = X + 1 := wrap_id (by omega) (by omega)
      go_wp2
      go_region_law (first
        | (go_simp; go_at_call 31; refine HL1.out.mono ?_; rintro e w1 ⟨rfl, hb1⟩; have H1 := HM.out.drew.below hb1; have d9 := H1.c9 HLK.out; have fo0 := own_frozen H1.prog (k * 2); have fo1 := own_frozen H1.prog (k * 2 + 1); have co0 := own_cell H1.prog (prV_at (k := k) (by rw [HLK.out]; exact hlt)).1; have co1 := own_cell H1.prog (prV_at (k := k) (by rw [HLK.out]; exact hlt)).2; (try go_simp)))
      all_goals go_wp2
      all_goals (
        have HM2 := H1.setPr k (by rw [HLK.out]; exact hlt) (0, X + 1)
        rw [HSUC.out] at HM2
        have HM3 := Lib.hid HM2
        have hst2 := ((((hst.drew).below hb1).storeO (k * 2) (.int .i64 0)).storeO (k * 2 + 1) (.int .i64 (X + 1)))
        go_roundw
        case rel => exact ⟨k + 1, by omega, by go_num, HM3, hst2⟩
        case measure => simp [intOf]; omega)
    · have hk' : k = m.prog.length := by omega
      subst hk'
      rw [HCL.out] at HM
      have HOKC := Lib.hid (hok.clear ht)
      have HPUT := Lib.hid (put_any HM.out (0, 0, 0, 0, 0, 0))
      clear HLT
      go_wp2_with (go_at_call 30; refine HPUT.out.mono ?_; rintro e w1 ⟨a1, rfl, H1, S1⟩)
      have HOKP := Lib.hid (HOKC.out.put ht (0, 0, 0, 0, 0, 0))
      have hlp : (m.clear.put (0, 0, 0, 0, 0, 0)).prog.length = m.prog.length := by unfold Mb.put; split <;> simp [Mb.clear]
      have hidp : (m.clear.put (0, 0, 0, 0, 0, 0)).id = m.id := by unfold Mb.put; split <;> rfl
      rw [HID.out] at hidp
      have HMARK : Hid ((m.clear.put (0, 0, 0, 0, 0, 0)).mark = (m.clear.put (0, 0, 0, 0, 0, 0)).setPr ((id0 : Int) + 1) ((lastF 0 0 (m.clear.put (0, 0, 0, 0, 0, 0)).log).1, ((m.clear.put (0, 0, 0, 0, 0, 0)).prAt ((id0 : Int) + 1)).2)) := by rw [Hid, ← hidp]; rfl
      have hX2 : 0 ≤ (lastF 0 0 (m.clear.put (0, 0, 0, 0, 0, 0)).log).1 ∧ (lastF 0 0 (m.clear.put (0, 0, 0, 0, 0, 0)).log).1 ≤ 64 := by rw [HOKP.out.lastF]; have := HOKP.out.len64; simp only; omega
      have HLEAD : Hid (m.lead = ((m.clear.put (0, 0, 0, 0, 0, 0)).mark).settle) := rfl
      have HLT2 := Lib.hid (mlast_any (H1.drew))
      generalize m.clear.put (0, 0, 0, 0, 0, 0) = mp at *
      obtain ⟨hX2, hX3⟩ := hX2
      have hc0 : w1.cell? ⟨b, 0, none⟩ = some (.int .i64 ((id0 : Int) + 1)) := H1.c0 hidp
      have hc9 := H1.c9 hlp
      have hbl := blk_lt H1.blk
      have hi0 : (0 : Int) ≤ (id0 : Int) := by omega
      have hi1 : (id0 : Int) < (m.prog.length : Int) := by omega
      have hi2 : (id0 : Int) + 1 ≤ 16 := by omega
      have HIDP := Lib.hid hidp
      have HLP := Lib.hid hlp
      clear hidp hlp
      have hwr2 : IntKind.i64.wrap (id0 : Int) = (id0 : Int) := wrap_id (by omega) (by omega)
      go_region_law (first
        | (go_simp; go_at_call 31; refine HLT2.out.mono ?_; rintro e w2 ⟨rfl, hb2⟩; have H2 := H1.drew.below hb2; have e0 := H2.c0 HIDP.out; have e9 := H2.c9 HLP.out; have fo0 := own_frozen H2.prog (id0 * 2); have co0 := own_cell H2.prog (prV_at (k := id0) (by rw [HLP.out]; exact hidn)).1; (try go_simp)))
      all_goals (
        have HM4 : MAt (w2.setCell ⟨a1.oa, id0 * 2, none⟩ (.int .i64 (lastF 0 0 mp.log).1)) b a1 mp.mark := by rw [HMARK.out]; exact H2.setMatch id0 (by rw [HLP.out]; exact hidn) _
        have S4 := (((hst.trans S1).drew).below hb2).storeO (id0 * 2) (.int .i64 (lastF 0 0 mp.log).1)
        have HSET := Lib.hid (settle_any HM4 HOKP.out.mark)
        go_wp2_with (first
          | (go_at_call 32; refine HSET.out.mono ?_; rintro e w5 ⟨a5, rfl, H5, S5⟩; have S6 := S4.trans S5; have HADDS := Lib.hid (adds_any H5 HOKP.out.mark.settle))
          | (go_at_call 27; refine HADDS.out.mono ?_; rintro e w6 ⟨A6, c6, sl6, rfl, hms6, hb6⟩))
        go_ret
        rw [HLEAD.out]
        exact ⟨a5, w5.heap.size, A6, c6, sl6, rfl, H5.below hb6, S6.below hb6, S6.chg.size, H5.lt, hms6⟩)
end
end Go.Proofs.Ytlejbhgginolgaa
