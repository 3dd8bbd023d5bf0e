/-
  The chapter example; what is saved fits.
-/
import Derived.Test.YtnljdkglncmfaaaGreatGrK
import Derived.Test.YtnljdkglncmfaaaGreatGrJ
import Derived.Test.YtnljdkglncmfaaaGreatGrN
import Derived.Test.YtnljdkglncmfaaaGreatRaftT
import Derived.Test.YtnljdkglncmfaaaGreatBl
namespace Go.Proofs.YtnljdkglncmfaaaGreat
open Go.RowKit
set_option linter.unusedVariables false
/-! ### What is saved fits -/
theorem saveB_le {h : St} {t v : Int} {l : List En} (ok : SaveOk h t v l) : (saveB h t v l).length ≤ 166 + (l.length - commonN h.2.2 l) * 83 := by
  obtain ⟨c1, c2, c3⟩ := commonN_spec h.2.2 l
  have h64 := (mayL_true ok.held.2).2.2.2.2.2.1
  have e1 : (if h.1 = t ∧ h.2.1 = v then ([] : List UInt8) else recB 1 [t, v]).length ≤ 83 := by
    split
    · exact Nat.zero_le _
    · exact (rec_length (ballot_rec ok.vote)).2
  have e2 : (if commonN h.2.2 l < h.2.2.length then recB 3 [((commonN h.2.2 l : Nat) : Int)] else ([] : List UInt8)).length ≤ 83 := by
    split
    · exact (rec_length (left_rec (by omega))).2
    · exact Nat.zero_le _
  have e3 := entRecs_le (l.drop (commonN h.2.2 l)) (commonN h.2.2 l) fun j hj => by
    rw [List.length_drop] at hj
    have hr := ent_rec ok.log (i := commonN h.2.2 l + j) (by omega) (ok.fair _ (List.getElem_mem _))
    rw [List.getElem_drop]
    exact hr
  rw [List.length_drop] at e3
  unfold saveB
  rw [List.length_append, List.length_append]
  omega
theorem saves_fit {m : Mb} {x : Vt} (hm : MbOk m) (hx : VtOk x) (hf : ∀ e ∈ m.log, EnFair e) (hl : x.1.length + 166 + (m.log.length - commonN x.2.2.2.2 m.log) * 83 ≤ 65536) : saves m x = 0 := by
  have ok : SaveOk x.2.2 m.term m.vote m.log := ⟨hx.held, hm.ballot, hm.log, hf⟩
  have hb := saveB_le ok
  unfold saves saveE
  rw [if_pos ⟨hm.ballot, hm.log, rfl, hf⟩, if_neg (by rw [List.length_append]; omega)]
/-! ### The chapter's example -/
abbrev exM : Mb := ⟨1, 1, 1, [(1, 0, 0, 0, 0, 0, 0)], 2, 1, [1], [(1, 1)]⟩
theorem exMOk : MbOk exM := by
  have h := exOk.timeout
  rw [exTime] at h
  exact h
theorem exSave : saves exM vt0 = 0 := saves_fit exMOk vt0_ok (fun e he => by
  simp only [List.mem_singleton] at he
  subst he
  unfold EnFair Fair
  intro n hn
  simp at hn
  subst hn
  decide) (by simp [vt0]; try omega)
theorem exGr : (newGr 1).does 0 1 0 0 = (⟨[(exM, syncV (saved exM vt0))], []⟩, 0) := by
  have e0 : newGr 1 = ⟨[(newMb 1 1 0 0 [], vt0)], []⟩ := rfl
  rw [e0]
  unfold Gr.does
  rw [if_neg (by decide), if_pos rfl]
  have e1 : (⟨[(newMb 1 1 0 0 [], vt0)], []⟩ : Gr).at_ 1 = (newMb 1 1 0 0 [], vt0) := rfl
  rw [e1, exTime]
  unfold Gr.acts
  rw [e1, if_pos exSave]
  rfl
theorem exGrOk : GrOk (newGr 1) := newGr_ok (by decide) (by decide)
set_option maxRecDepth 100000 in
set_option maxHeartbeats 6400000 in
theorem groupAwake_any (w : World) : Calls Tryz.prog 10 #[] w fun e w' => e = .returned (.bool true) ∧ Below w.heap.size w w' := by
  have HN : Hid (Calls Tryz.prog 11 #[.int .i64 1] w (RetGr 1 w)) := gnew_any 1 w (by decide) (by decide)
  have HD : Hid (∀ W G L, GAt W G L (newGr 1) → Calls Tryz.prog 12 #[.pointer (some ⟨G, 0, none⟩), itV 0 1 0 0] W (RetE (⟨[(exM, syncV (saved exM vt0))], []⟩, 0) G L W)) := fun W G L h => by
    have := do_any exGrOk h 0 1 0 0 (Nat.zero_le _)
    rwa [exGr] at this
  generalize hgx : (⟨[(exM, syncV (saved exM vt0))], []⟩ : Gr) = gx at HD
  have hx0 : gx.ms[0]? = some (exM, syncV (saved exM vt0)) := by subst hgx; rfl
  have hx1 : gx.ms.length = 1 := by subst hgx; rfl
  have HRO : Hid (∀ W G L, GAt W G L gx → Calls Tryz.prog 13 #[.pointer (some ⟨G, 0, none⟩), .int .i64 1] W fun e w' => e = .returned (.int .i64 2) ∧ Below W.heap.size W w') := fun W G L h => by
    have := grole_any h (by rw [hx1]; decide) hx0
    simpa using this
  have HBA : Hid (∀ W G L, GAt W G L gx → Calls Tryz.prog 14 #[.pointer (some ⟨G, 0, none⟩), .int .i64 1] W fun e w' => e = .returned (ballotV 1 1) ∧ Below W.heap.size W w') := fun W G L h => by
    have := gballot_any h (by rw [hx1]; decide) hx0
    simpa using this
  have HLO : Hid (∀ W G L, GAt W G L gx → Calls Tryz.prog 15 #[.pointer (some ⟨G, 0, none⟩), .int .i64 1] W (RetRow 42 7 1 (ensV exM.log) W)) := fun W G L h => by
    have := glog_any h (by rw [hx1]; decide) hx0 (by decide)
    simpa using this
  have HSE : Hid (∀ W G L, GAt W G L gx → Calls Tryz.prog 17 #[.pointer (some ⟨G, 0, none⟩), .int .i64 1] W (RetRow 42 7 1 (ensV (settledE exM)) W)) := fun W G L h => by
    have := gsettled_any h (by rw [hx1]; decide) hx0 (by decide) (by decide) (by decide)
    rw [show (settledE exM).length = 1 from rfl] at this
    simpa using this
  have HLE : Hid (∀ W G L, GAt W G L gx → Calls Tryz.prog 22 #[.pointer (some ⟨G, 0, none⟩)] W fun e w' => e = .returned (.int .i64 1) ∧ w' = W) := fun W G L h => by
    have := glen_any h
    rw [hx1] at this
    exact this
  generalize ensV exM.log = xs1 at HLO
  generalize ensV (settledE exM) = xs2 at HSE
  have hfb : ∀ (t v : Int) (W : World), (Instr.field 34 (ballotV t v) 0).run Tryz.prog W = .ok (.int .i64 t) W := fun t v W => by kernel_rfl
  clear hgx hx0 hx1
  go_enter Tryz.func10, Tryz.ntmps10
  go_wp2_with (first
    | (go_at_call 11; refine HN.out.mono ?_; rintro e w1 ⟨G, L, rfl, h1, hf1, hb1⟩; have HD1 := Lib.hid (HD.out _ _ _ h1))
    | (go_at_call 12; refine HD1.out.mono ?_; rintro e w2 ⟨rfl, L2, h2, S2⟩; have hb2 : Below w.heap.size w w2 := hb1.trans (S2.chg.to_below hf1 hb1.size); have HR2 := Lib.hid (HRO.out _ _ _ h2))
    | (go_at_call 13; refine HR2.out.mono ?_; rintro e w3 ⟨rfl, hb3⟩; have h3 := h2.below hb3; have hw3 := hb2.trans (hb3.mono hb2.size); have HS3 := Lib.hid (HSE.out _ _ _ h3))
    | (go_at_call 17; refine HS3.out.mono ?_; rintro e w4 ⟨A4, c4, rfl, own4, hb4⟩; have h4 := h3.below hb4; have hw4 := hw3.trans (hb4.mono hw3.size); have HL4 := Lib.hid (HLO.out _ _ _ h4))
    | (go_at_call 15; refine HL4.out.mono ?_; rintro e w5 ⟨A5, c5, rfl, own5, hb5⟩; have h5 := h4.below hb5; have hw5 := hw4.trans (hb5.mono hw4.size); have HB5 := Lib.hid (HBA.out _ _ _ h5))
    | (go_at_call 14; refine HB5.out.mono ?_; rintro e w6 ⟨rfl, hb6⟩; have h6 := h5.below hb6; have hw6 := hw5.trans (hb6.mono hw5.size); have HN6 := Lib.hid (HLE.out _ _ _ h6))
    | (go_at_call 22; refine HN6.out.mono ?_; rintro e wx ⟨rfl, hwx⟩; subst hwx))
  go_ret
  exact ⟨rfl, hw6⟩
end Go.Proofs.YtnljdkglncmfaaaGreat
