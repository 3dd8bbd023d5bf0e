/-
  The law of a group that goes.
-/
import Derived.Test.YtnljdkglncmfaaaGreatLv
import Derived.Test.YtnljdkglncmfaaaGreatGrT
namespace Go.Proofs.YtnljdkglncmfaaaGreat
open Go.RowKit
set_option linter.unusedVariables false
/-- What is left of a drain. -/
def DrOf (k : Nat) (g g' : Gr) : Prop := GrOk g' ∧ g'.net.length ≤ 1000 + 16 * k ∧ Gr.drain (2000 - k) g' = Gr.drain 2000 g
set_option maxRecDepth 100000 in
set_option maxHeartbeats 6400000 in
theorem drain_any {w : World} {G : Nat} {L : GL} {g : Gr} (hg : GAt w G L g) (ok : GrOk g) (hn : g.net.length ≤ 1000) :
    Calls Tryz.prog 24 #[.pointer (some ⟨G, 0, none⟩)] w fun e w' => e = .returned (.tuple #[]) ∧ ∃ L', GAt w' G L' (Gr.drain 2000 g) ∧ GStep w G L w' L' := by
  have HR0 : Hid (DrOf 0 g g) := Lib.hid ⟨ok, by omega, rfl⟩
  clear ok hn
  go_enter Tryz.func24, Tryz.ntmps24
  go_wp2
  go_loopw [2] (fun j wr => ∃ (k : Nat) (L' : GL) (g' : Gr), k ≤ 2000 ∧ j = .int .i64 (k : Int) ∧ Hid (DrOf k g g') ∧ GAt wr G L' g' ∧ GStep w G L wr L') (fun j _ => 2000 - (intOf j).toNat)
  case atStart => exact ⟨0, L, g, by omega, rfl, HR0, hg, GStep.refl _ _ _⟩
  case round =>
    clear hg HR0
    obtain ⟨k, L4, g4, hk, rfl, HR, h4, S4⟩ := hrel
    have hk0 : (0 : Int) ≤ (k : Int) := by omega
    by_cases hlt : k < 2000
    · have hk1 : (k : Int) < 2000 := by omega
      have HWA := Lib.hid (waiting_any h4)
      by_cases hz : g4.net.length = 0
      · have HD : Hid (g4 = Gr.drain 2000 g) := by
          have := HR.out.2.2
          rwa [Gr.drain_idle hz] at this
        rw [hz] at HWA
        clear hz
        go_wp2_with (go_at_call 21; refine HWA.out.mono ?_; rintro e wx ⟨rfl, hwx⟩; subst hwx)
        refine bodyPost_end (results_none rfl _ _ _) rfl ?_
        exact ⟨rfl, L4, by rw [← HD.out]; exact h4, S4⟩
      · have hz1 : (0 : Int) < (g4.net.length : Int) := by omega
        have HN5 : Hid (DrOf (k + 1) g (g4.does 3 0 0 0).1) := by
          obtain ⟨o1, o2, o3⟩ := HR.out
          refine ⟨o1.does _ _ _ _, by have := does_net o1 3 0 0 0; omega, ?_⟩
          rw [← o3, show 2000 - k = (2000 - (k + 1)) + 1 by omega, Gr.drain, if_neg hz]
        have HDO : Hid (Calls Tryz.prog 12 #[.pointer (some ⟨G, 0, none⟩), itV 3 0 0 0] wr (RetE (g4.does 3 0 0 0) G L4 wr)) := do_any HR.out.1 h4 _ _ _ _ (by have := HR.out.2.1; omega)
        generalize g4.does 3 0 0 0 = r5 at *
        obtain ⟨g5, e5⟩ := r5
        simp only at HN5
        clear HR hz
        go_wp2_with (first
          | (go_at_call 21; refine HWA.out.mono ?_; rintro e wx ⟨rfl, hwx⟩; subst hwx)
          | (go_at_call 12; refine HDO.out.mono ?_; rintro e w5 ⟨rfl, L5, h5, S5⟩; have S6 := S4.trans S5))
        go_roundw
        case rel => exact ⟨k + 1, L5, g5, by omega, by go_num, HN5, h5, S6⟩
        case measure => simp [intOf]; omega
    · have hk1 : ¬ (k : Int) < 2000 := by omega
      have HD : Hid (g4 = Gr.drain 2000 g) := by
        have := HR.out.2.2
        rwa [show 2000 - k = 0 by omega] at this
      go_wp2
      refine bodyPost_end (results_none rfl _ _ _) rfl ?_
      exact ⟨rfl, L4, by rw [← HD.out]; exact h4, S4⟩
set_option maxRecDepth 100000 in
set_option maxHeartbeats 6400000 in
theorem groupGoes_walk (many first : Int) (a : Option Addr) (cap : Nat) (ns : List Int) (w : World) (hns : IntsIn w a cap ns) :
    Calls Tryz.prog 7 #[.int .i64 many, .int .i64 first, .slice a ns.length cap] w fun e w' => e = .returned (.bool true) ∧ Below w.heap.size w w' := by
  by_cases hmany : many < 1 ∨ 16 < many
  · have HN : Hid (∀ W, Calls Tryz.prog 11 #[.int .i64 many] W fun e w' => e = .returned (.tuple #[.pointer none, .int .i64 1]) ∧ w' = W) := fun W => gnew_no many W hmany
    clear hns hmany
    go_enter Tryz.func7, Tryz.ntmps7
    go_wp2_with (first
      | (go_at_call 10; refine (groupAwake_any _).mono ?_; rintro e w1 ⟨rfl, hb1⟩)
      | (go_at_call 11; refine (HN.out _).mono ?_; rintro e wx ⟨rfl, hwx⟩; subst hwx))
    go_ret
    exact ⟨rfl, hb1⟩
  obtain ⟨n, rfl⟩ : ∃ n : Nat, many = (n : Int) := ⟨many.toNat, by omega⟩
  have hn1 : 1 ≤ n := by omega
  have hn16 : n ≤ 16 := by omega
  have HN : Hid (∀ W, Calls Tryz.prog 11 #[.int .i64 (n : Int)] W (RetGr n W)) := fun W => gnew_any n W hn1 hn16
  by_cases hquit : 7 < (n : Int) ∨ first < 1 ∨ (n : Int) < first ∨ 20 < (ns.length : Int)
  · clear hns hmany
    have go : (7 < (n : Int)) ∨ (¬ 7 < (n : Int) ∧ first < 1) ∨ (¬ 7 < (n : Int) ∧ ¬ first < 1 ∧ (n : Int) < first) ∨ (¬ 7 < (n : Int) ∧ ¬ first < 1 ∧ ¬ (n : Int) < first ∧ 20 < (ns.length : Int)) := by omega
    clear hquit
    rcases go with q1 | ⟨q1, q2⟩ | ⟨q1, q2, q3⟩ | ⟨q1, q2, q3, q4⟩
    all_goals (
      go_enter Tryz.func7, Tryz.ntmps7
      go_wp2_with (first
        | (go_at_call 10; refine (groupAwake_any _).mono ?_; rintro e w1 ⟨rfl, hb1⟩)
        | (go_at_call 11; refine (HN.out _).mono ?_; rintro e w2 ⟨G, L, rfl, h2, hf2, hb2⟩; have hw2 := hb1.trans (hb2.mono hb1.size)))
      go_ret
      exact ⟨rfl, hw2⟩)
  have q1 : ¬ 7 < (n : Int) := fun h => hquit (.inl h)
  have q2 : ¬ first < 1 := fun h => hquit (.inr (.inl h))
  have q3 : ¬ (n : Int) < first := fun h => hquit (.inr (.inr (.inl h)))
  have q4 : ¬ 20 < (ns.length : Int) := fun h => hquit (.inr (.inr (.inr h)))
  have hff : 1 ≤ first ∧ first ≤ (n : Int) := by omega
  have HI := Lib.hid hns
  have HG0 : Hid (Goes n first [] (Gr.drain 2000 ((newGr n).does 0 first 0 0).1)) := Lib.hid (goes_start hn1 (by omega) hff)
  have HD0 : Hid (∀ W G L, GAt W G L (newGr n) → Calls Tryz.prog 12 #[.pointer (some ⟨G, 0, none⟩), itV 0 first 0 0] W (RetE ((newGr n).does 0 first 0 0) G L W)) := fun W G L h => do_any (newGr_ok hn1 hn16) h _ _ _ _ (Nat.zero_le _)
  have HR0 : Hid (∀ W G L, GAt W G L ((newGr n).does 0 first 0 0).1 → Calls Tryz.prog 24 #[.pointer (some ⟨G, 0, none⟩)] W fun e w' => e = .returned (.tuple #[]) ∧ ∃ L', GAt w' G L' (Gr.drain 2000 ((newGr n).does 0 first 0 0).1) ∧ GStep W G L w' L') := fun W G L h => drain_any h ((newGr_ok hn1 hn16).does _ _ _ _) (by have := does_net (newGr_ok hn1 hn16) 0 first 0 0; have e : (newGr n).net.length = 0 := rfl; omega)
  generalize hd : Gr.drain 2000 ((newGr n).does 0 first 0 0).1 = g1 at *
  generalize (newGr n).does 0 first 0 0 = r0 at *
  obtain ⟨g0, e0⟩ := r0
  simp only at HR0
  clear hns hmany hquit hd
  go_enter Tryz.func7, Tryz.ntmps7
  go_wp2_with (first
    | (go_at_call 10; refine (groupAwake_any _).mono ?_; rintro e w1 ⟨rfl, hb1⟩)
    | (go_at_call 11; refine (HN.out _).mono ?_; rintro e w2 ⟨G, L, rfl, h2, hf2, hb2⟩; have hw2 := hb1.trans (hb2.mono hb1.size); have hfw : ∀ x ∈ gall G L, w.heap.size ≤ x := (fun x hx => Nat.le_trans hb1.size (hf2 x hx)); have HD2 := Lib.hid (HD0.out _ _ _ h2))
    | (go_at_call 12; refine HD2.out.mono ?_; rintro e w3 ⟨rfl, L3, h3, S3⟩; have hw3 : Below w.heap.size w w3 := hw2.trans (S3.chg.to_below hfw hw2.size); have hf3 : ∀ x ∈ gall G L3, w.heap.size ≤ x := (fun x hx => (S3.sub x hx).elim (hfw x) (fun q => Nat.le_trans hw2.size q)); have HR3 := Lib.hid (HR0.out _ _ _ h3))
    | (go_at_call 24; refine HR3.out.mono ?_; rintro e w4 ⟨rfl, L4, h4, S4⟩; have hw4 : Below w.heap.size w w4 := hw3.trans (S4.chg.to_below hf3 hw3.size); have hf4 : ∀ x ∈ gall G L4, w.heap.size ≤ x := (fun x hx => (S4.sub x hx).elim (hf3 x) (fun q => Nat.le_trans hw3.size q))))
  have HG1 := HG0
  clear HR0 HD0 HG0 HN h2 hf2 hw2 hfw HD2 h3 S3 hw3 hf3 HR3 S4 hb1 hb2
  go_loopw [10] (fun j wr => ∃ (k : Nat) (L' : GL) (g : Gr), k ≤ ns.length ∧ j = .int .i64 (k : Int) ∧ Hid (Goes n first (ns.take k) g) ∧ GAt wr G L' g ∧ (∀ x ∈ gall G L', w.heap.size ≤ x) ∧ Below w.heap.size w wr) (fun j _ => ns.length - (intOf j).toNat)
  case atStart => exact ⟨0, L4, g1, by omega, rfl, HG1, h4, hf4, hw4⟩
  case round =>
    clear h4 hf4 hw4 HG1
    obtain ⟨k, L4, g, hk, rfl, HG, h4, hf4, hw4⟩ := hrel
    have hk0 : (0 : Int) ≤ (k : Int) := by omega
    by_cases hlt : k < ns.length
    · have hk1 : (k : Int) < (ns.length : Int) := by omega
      obtain ⟨nb, noff, rfl, nlt, nc⟩ := (HI.out.cells.below hw4).at hlt
      have HTA : Hid (ns.take (k + 1) = ns.take k ++ [ns[k]'hlt]) := Lib.hid (List.take_succ_eq_append_getElem hlt)
      generalize (ns[k]'hlt) = x at *
      by_cases c1 : x < 0
      · go_wp2
        go_ret
        exact ⟨rfl, hw4⟩
      by_cases c2 : 1073741824 < x
      · go_wp2
        go_ret
        exact ⟨rfl, hw4⟩
      obtain ⟨hz, hnx⟩ := goes_next (by omega) HG.out (by rw [List.length_take]; omega) (a := x) (by omega)
      have HN5 : Hid (Goes n first (ns.take (k + 1)) (Gr.drain 2000 (g.does 2 first x 0).1)) := by rw [HTA.out]; exact hnx
      clear hnx
      have hgok : GrOk g := by obtain ⟨_, t, _⟩ := HG.out; exact t.calm.ok
      have hgn : g.net = [] := by obtain ⟨_, t, _⟩ := HG.out; exact t.calm.net
      have HDO : Hid (Calls Tryz.prog 12 #[.pointer (some ⟨G, 0, none⟩), itV 2 first x 0] wr (RetE (g.does 2 first x 0) G L4 wr)) := do_any hgok h4 _ _ _ _ (by rw [hgn]; exact Nat.zero_le _)
      have HDR : Hid (∀ W G L, GAt W G L (g.does 2 first x 0).1 → Calls Tryz.prog 24 #[.pointer (some ⟨G, 0, none⟩)] W fun e w' => e = .returned (.tuple #[]) ∧ ∃ L', GAt w' G L' (Gr.drain 2000 (g.does 2 first x 0).1) ∧ GStep W G L w' L') := fun W G L h => drain_any h (hgok.does _ _ _ _) (by have := does_net hgok 2 first x 0; rw [hgn] at this; simp at this; omega)
      generalize hd : Gr.drain 2000 (g.does 2 first x 0).1 = g6 at *
      generalize g.does 2 first x 0 = r5 at *
      obtain ⟨g5, e5⟩ := r5
      simp only at hz HDR
      subst hz
      clear hd hgn hgok HG
      go_wp2_with (first
        | (go_at_call 12; refine HDO.out.mono ?_; rintro e w5 ⟨rfl, L5, h5, S5⟩; have hw5 : Below w.heap.size w w5 := hw4.trans (S5.chg.to_below hf4 hw4.size); have hf5 : ∀ x ∈ gall G L5, w.heap.size ≤ x := (fun x hx => (S5.sub x hx).elim (hf4 x) (fun q => Nat.le_trans hw4.size q)); have HR5 := Lib.hid (HDR.out _ _ _ h5))
        | (go_at_call 24; refine HR5.out.mono ?_; rintro e w6 ⟨rfl, L6, h6, S6⟩; have hw6 : Below w.heap.size w w6 := hw5.trans (S6.chg.to_below hf5 hw5.size); have hf6 : ∀ x ∈ gall G L6, w.heap.size ≤ x := (fun x hx => (S6.sub x hx).elim (hf5 x) (fun q => Nat.le_trans hw5.size q))))
      go_roundw
      case rel => exact ⟨k + 1, L6, g6, by omega, by go_num, HN5, h6, hf6, hw6⟩
      case measure => simp [intOf]; omega
    have hk1 : ¬ (k : Int) < (ns.length : Int) := by omega
    obtain rfl : k = ns.length := by omega
    have hG := HG.out
    rw [List.take_length] at hG
    obtain ⟨eok, emany, enet, erole, eset⟩ := goes_end (by omega) hG
    have hgok : GrOk g := by obtain ⟨_, t, _⟩ := HG.out; exact t.calm.ok
    have hgn : g.net = [] := by obtain ⟨_, t, _⟩ := HG.out; exact t.calm.net
    have HDO : Hid (Calls Tryz.prog 12 #[.pointer (some ⟨G, 0, none⟩), itV 1 first 0 0] wr (RetE (g.does 1 first 0 0) G L4 wr)) := do_any hgok h4 _ _ _ _ (by rw [hgn]; exact Nat.zero_le _)
    have HDR : Hid (∀ W G L, GAt W G L (g.does 1 first 0 0).1 → Calls Tryz.prog 24 #[.pointer (some ⟨G, 0, none⟩)] W fun e w' => e = .returned (.tuple #[]) ∧ ∃ L', GAt w' G L' (Gr.drain 2000 (g.does 1 first 0 0).1) ∧ GStep W G L w' L') := fun W G L h => drain_any h (hgok.does _ _ _ _) (by have := does_net hgok 1 first 0 0; rw [hgn] at this; simp at this; omega)
    generalize hd : Gr.drain 2000 (g.does 1 first 0 0).1 = g6 at *
    generalize g.does 1 first 0 0 = r5 at *
    obtain ⟨g5, e5⟩ := r5
    simp only at HDR
    have HOK := Lib.hid eok
    have HMA := Lib.hid emany
    have HNE : Hid (g6.net.length = 0) := Lib.hid (by rw [enet]; rfl)
    have HRL := Lib.hid erole
    have HSE := Lib.hid eset
    clear hd hgn hgok HG hG eok emany enet erole eset hlt hk1
    have hk1 : ¬ (ns.length : Int) < (ns.length : Int) := by omega
    go_wp2_with (first
      | (go_at_call 12; refine HDO.out.mono ?_; rintro e w5 ⟨rfl, L5, h5, S5⟩; have hw5 : Below w.heap.size w w5 := hw4.trans (S5.chg.to_below hf4 hw4.size); have hf5 : ∀ x ∈ gall G L5, w.heap.size ≤ x := (fun x hx => (S5.sub x hx).elim (hf4 x) (fun q => Nat.le_trans hw4.size q)); have HR5 := Lib.hid (HDR.out _ _ _ h5))
      | (go_at_call 24; refine HR5.out.mono ?_; rintro e w6 ⟨rfl, L6, h6, S6⟩; have hw6 : Below w.heap.size w w6 := hw5.trans (S6.chg.to_below hf5 hw5.size); have hf6 : ∀ x ∈ gall G L6, w.heap.size ≤ x := (fun x hx => (S6.sub x hx).elim (hf5 x) (fun q => Nat.le_trans hw5.size q))))
    clear HDO HDR h4 hf4 hw4 h5 S5 hw5 hf5 HR5 S6
    have HSL : Hid ((goLog ns).length = ns.length + 1) := Lib.hid (by unfold goLog; simp)
    have HSA : Hid (∀ i, (hi : i < ns.length) → ∀ (h2 : i + 1 < (goLog ns).length), ((goLog ns)[i + 1]'h2).2.2.2.2.1 = ns[i]'hi) := Lib.hid (fun i hi h2 => by simp [goLog, Gr.cmd])
    have hn20 : ns.length ≤ 20 := by omega
    have hwr1 : IntKind.i64.wrap ((ns.length : Int) + 1) = (ns.length : Int) + 1 := wrap_id (by omega) (by omega)
    have hwr2 : wrap64 ((ns.length : Int) + 1) = (ns.length : Int) + 1 := wrap64_id (by omega) (by omega)
    go_loopw [12] (fun j wr => ∃ (m : Nat), m ≤ n ∧ j = .int .i64 ((m : Int) + 1) ∧ GAt wr G L6 g6 ∧ Below w.heap.size w wr) (fun j _ => (n + 1 : Nat) - (intOf j).toNat)
    case atStart => exact ⟨0, by omega, rfl, h6, hw6⟩
    case round =>
      clear h6 hw6 hf6
      obtain ⟨m, hm, rfl, h7, hw7⟩ := hrel
      have hgn : g6.ms.length ≤ 16 := HOK.out.n16
      by_cases hmn : m < n
      rotate_left 1
      · have hm1 : ¬ (m : Int) + 1 ≤ (n : Int) := by omega
        obtain ⟨fi, hfi⟩ : ∃ fi : Nat, first = (fi : Int) + 1 := ⟨(first - 1).toNat, by omega⟩
        obtain ⟨p, hp⟩ : ∃ p, g6.ms[fi]? = some p := ⟨_, List.getElem?_eq_getElem (by rw [HMA.out]; omega)⟩
        have HRO : Hid (Calls Tryz.prog 13 #[.pointer (some ⟨G, 0, none⟩), .int .i64 first] wr fun e w' => e = .returned (.int .i64 2) ∧ Below wr.heap.size wr w') := by
          have := grole_any h7 hgn hp
          have e := HRL.out
          unfold Gr.mb at e
          rw [hfi, at_some hp] at e
          rwa [e, ← hfi] at this
        clear hfi hp
        go_wp2_with (go_at_call 13; refine HRO.out.mono ?_; rintro e w8 ⟨rfl, hb8⟩; have hw8 := hw7.trans (hb8.mono hw7.size))
        go_ret
        exact ⟨rfl, hw8⟩
      have hm1 : (m : Int) + 1 ≤ (n : Int) := by omega
      obtain ⟨p, hp⟩ : ∃ p, g6.ms[m]? = some p := ⟨_, List.getElem?_eq_getElem (by rw [HMA.out]; exact hmn)⟩
      have hmb := (HOK.out.pair m p hp).mb
      have HST : Hid (Calls Tryz.prog 17 #[.pointer (some ⟨G, 0, none⟩), .int .i64 ((m : Int) + 1)] wr (RetRow 42 7 (ns.length + 1) (ensV (goLog ns)) wr)) := by
        have := gsettled_any h7 hgn hp hmb.len64 hmb.set0 hmb.set64
        have e := HSE.out ((m : Int) + 1) (by omega) (by omega)
        unfold Gr.mb at e
        rw [at_some hp] at e
        rwa [e, HSL.out] at this
      have HWA : Hid (∀ W, GAt W G L6 g6 → Calls Tryz.prog 21 #[.pointer (some ⟨G, 0, none⟩)] W fun e w' => e = .returned (.int .i64 0) ∧ w' = W) := fun W h => by
        have := waiting_any h
        rwa [HNE.out] at this
      clear hmb
      go_wp2_with (first
        | (go_at_call 17; refine HST.out.mono ?_; rintro e w8 ⟨A8, c8, rfl, own8, hb8⟩; have h8 := h7.below hb8; have hw8 := hw7.trans (hb8.mono hw7.size); have HW8 := Lib.hid (HWA.out _ h8))
        | (go_at_call 21; refine HW8.out.mono ?_; rintro e wx ⟨rfl, hwx⟩; subst hwx))
      have lx := LogIn.of_own (es := goLog ns) (by rw [HSL.out]; exact own8)
      clear own8 HST HWA hb8 HW8 h7 hw7
      go_loopw [14] (fun j wx => ∃ (i : Nat), i ≤ ns.length ∧ j = .int .i64 (i : Int) ∧ GAt wx G L6 g6 ∧ LogIn wx A8 c8 (goLog ns) ∧ Below w.heap.size w wx) (fun j _ => ns.length - (intOf j).toNat)
      case atStart => exact ⟨0, by omega, rfl, h8, lx, hw8⟩
      case round =>
        clear h8 lx hw8
        obtain ⟨i, hi, rfl, h9, lx, hw9⟩ := hrel
        have hi0 : (0 : Int) ≤ (i : Int) := by omega
        by_cases hin : i < ns.length
        rotate_left 1
        · have hi1 : ¬ (i : Int) < (ns.length : Int) := by omega
          go_wp2
          go_roundw
          case rel => exact ⟨m + 1, by omega, by go_num, h9, hw9⟩
          case measure => simp [intOf]; omega
        have hi1 : (i : Int) < (ns.length : Int) := by omega
        obtain ⟨nb, noff, rfl, nlt, nc⟩ := (HI.out.cells.below hw9).at hin
        have hg1 : i + 1 < (goLog ns).length := by rw [HSL.out]; omega
        obtain ⟨eb, eoff, rfl, elt, hec⟩ := entry_cells lx.row hg1
        have ec := hec.2.2.2.2.1
        clear hec
        rw [HSA.out i hin hg1] at ec
        generalize (ns[i]'hin) = x at *
        have dr := (below0 wr).drew
        have h9' := Lib.hid (h9.below dr)
        have lx' := Lib.hid (lx.below dr)
        have hw9' := hw9.trans (dr.mono hw9.size)
        have hwi : IntKind.i64.wrap ((i : Int) + 1) = (i : Int) + 1 := wrap_id (by omega) (by omega)
        have hbi0 : (0 : Int) ≤ (i : Int) + 1 := by omega
        have hbi1 : (i : Int) + 1 < (ns.length : Int) + 1 := by omega
        have hti : ((i : Int) + 1).toNat = i + 1 := by omega
        clear hg1
        go_wp2
        go_region_held3 (fun W => W.cell? ⟨eb, eoff + (i + 1) * 7 + 4, none⟩ = some (.int .i64 x) ∧ W.cell? ⟨nb, noff + i, none⟩ = some (.int .i64 x)) (first | exact ⟨ec, nc⟩ | go_keep) (fail)
        go_wp2
        go_roundw
        case rel => exact ⟨i + 1, by omega, by go_num, h9'.out, lx'.out, hw9'⟩
        case measure => simp [intOf]; omega
end Go.Proofs.YtnljdkglncmfaaaGreat
