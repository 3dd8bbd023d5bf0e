/-
  Layer 3's laws, second part: what is got is put as it was; bursts.
-/
import Derived.Test.YtbonockefjenaaaFrameLawsA
namespace Go.Proofs.Ytbonockefjenaaa
open Go.RowKit

theorem get_none {bs : List UInt8} (h : getE bs ≠ 0) : getN bs = 0 ∧ getF bs = (0, []) :=
  ⟨by unfold getN; rw [if_neg h], by unfold getF; rw [if_neg h]⟩
set_option maxHeartbeats 1600000 in
theorem frameOnce_walk (a : Option Addr) (cap : Nat) (bs : List UInt8) (w : World) (hb : CellsB w a bs) (hcap : bs.length ≤ cap) (hz : a = none → bs.length = 0) :
    Calls Try.prog 4 #[.slice a bs.length cap] w fun e w' => e = .returned (.bool true) ∧ Below w.heap.size w w' := by
  have HZ := Lib.hid hz
  clear hz
  by_cases h1 : (6000 : Int) < (bs.length : Int)
  · clear hb
    go_enter Try.func4, Try.ntmps4
    go_wp2_with (go_at_call 10; refine (frameAwake_any _).mono ?_; rintro e w1 ⟨rfl, hb1⟩)
    go_ret
    exact ⟨rfl, hb1⟩
  · have hg : Hid (∀ W, CellsB W a bs → Calls Try.prog 13 #[.slice a bs.length cap] W (RetGet (getF bs) (getN bs) (getE bs) W)) := fun W h => get_any a cap bs W h hcap (by omega)
    by_cases h2 : getE bs = 0
    · obtain ⟨hp0, hp1⟩ := get_put h2
      have hn := getN_pos h2
      have hl : (putB (getF bs)).length = getN bs := by rw [hp1, List.length_take]; omega
      rw [h2] at hg
      have hP : Hid (∀ W A c, CellsB W A (getF bs).2 → (A = none → (getF bs).2.length = 0) → Calls Try.prog 11 #[.agg #[.int .i64 (getF bs).1, .slice A (getF bs).2.length c]] W (RetRowE 5 1 (getN bs) ((bs.take (getN bs)).map byteV) 0 W)) := fun W A c h hz => by
        have := put_any (getF bs).1 A c (getF bs).2 W h hz
        rwa [show ((getF bs).1, (getF bs).2) = getF bs from rfl, hp0, hl, hp1] at this
      have hcl : Hid ((bs.take (getN bs)).length = getN bs) := by rw [Hid, List.length_take]; omega
      have hn1 : getN bs ≤ bs.length := hn.2
      have hnc : getN bs ≤ cap := by omega
      clear hp0 hp1 hl hn h2
      generalize getN bs = N at hg hP hcl hn1 hnc
      have hn1i : (N : Int) ≤ (bs.length : Int) := by omega
      generalize getF bs = f at hg hP
      obtain ⟨K, D⟩ := f
      have hN0 : (0 : Int) ≤ (N : Int) := by omega
      have hNc : (N : Int) ≤ (cap : Int) := by omega
      go_enter Try.func4, Try.ntmps4
      go_wp2_with (first
        | (go_at_call 10; refine (frameAwake_any _).mono ?_; rintro e w1 ⟨rfl, hb1⟩)
        | (go_at_call 13; refine (hg.out _ (hb.below hb1)).mono ?_; rintro e w2 ⟨a2, c2, rfl, hcells, hnone, _, hd2⟩; have hb2 := (bt hb1 hd2).alloc (bt hb1 hd2).size (.cells #[.int .i64 K, .slice a2 D.length c2] 24))
        | (go_at_call 11; refine (hP.out _ a2 c2 (RowAt.alloc hcells _) hnone).mono ?_; rintro e w3 ⟨a3, c3, rfl, hown3, hd3⟩; have hb3 := bt hb2 hd3))
      have hs1 := fun W => slice_to a bs.length cap N hnc W
      have hcv3 : ∀ n, (convert 22 9 (.slice a3 N c3)).run Try.prog (w3.drewN n) = .ok (.string (strOf (bs.take N))) (w3.drewN n) := fun n => by
        have := run_convert_cells c3 (w3.drewN n) (bs := bs.take N) (RowAt.of_own hown3) (by rw [hcl.out]; exact own_none hown3)
        rwa [hcl.out] at this
      have hcv0 : ∀ n, (convert 22 9 (.slice a N cap)).run Try.prog (w3.drewN n) = .ok (.string (strOf (bs.take N))) (w3.drewN n) := fun n => by
        have := run_convert_cells cap (w3.drewN n) (bs := bs.take N) ((hb.below (below_drewN hb3 n)).take N) (by rw [hcl.out]; intro h; have := HZ.out h; omega)
        rwa [hcl.out] at this
      go_quiet (fail)
      go_wp2
      go_ret
      exact ⟨by simp, below_drewN hb3 _⟩
    · obtain ⟨h3, h4⟩ := get_none h2
      have ht : (getE bs != 0) = true := by simpa using h2
      rw [h3, h4] at hg
      clear h2 h3 h4
      generalize getE bs = E at hg ht
      go_enter Try.func4, Try.ntmps4
      go_wp2_with (first
        | (go_at_call 10; refine (frameAwake_any _).mono ?_; rintro e w1 ⟨rfl, hb1⟩)
        | (go_at_call 13; refine (hg.out _ (hb.below hb1)).mono ?_; rintro e w2 ⟨a2, c2, rfl, _, _, _, hd2⟩))
      go_ret
      exact ⟨rfl, (bt hb1 hd2).alloc (bt hb1 hd2).size _⟩
theorem byte_cell {bs : List UInt8} {k : Nat} (hk : k < bs.length) : (bs.map byteV)[k]? = some (.int .u8 ((bs.getD k 0).toNat : Int)) := by
  rw [List.getElem?_map, List.getElem?_eq_getElem hk, List.getD_eq_getElem?_getD, List.getElem?_eq_getElem hk]
  rfl
theorem mask_even_no {mask : BitVec 32} (h : mask.getLsbD 0 = true) : (U mask % (2 : Int) == 0) = false := by
  rw [lsb_toNat] at h
  unfold U
  simp at h ⊢
  omega
theorem mask_even_yes {mask : BitVec 32} (h : mask.getLsbD 0 = false) : (U mask % (2 : Int) == 0) = true := by
  rw [lsb_toNat] at h
  unfold U
  simp at h ⊢
  omega
/-- No bit of a byte is turned. -/
def Spares (bs : List UInt8) (at0 : Nat) (mask : BitVec 32) (k j : Nat) : Prop := ∀ i, i < k → mask.getLsbD i = true → at0 + i < 8 * bs.length → (at0 + i) / 8 ≠ j
theorem turnedAt_keep {bs : List UInt8} {at0 : Nat} {mask : BitVec 32} {k j : Nat} (h : Spares bs at0 mask k j) : (turnedAt bs at0 mask k).getD j 0 = bs.getD j 0 := by
  induction k with
  | zero => rfl
  | succ k ih =>
    have ih' := ih fun i hi h1 h2 => h i (by omega) h1 h2
    by_cases h1 : mask.getLsbD k = true
    · by_cases h2 : at0 + k < 8 * bs.length
      · have hj := h k (by omega) h1 h2
        rw [turnedAt_yes h1 h2, List.getD_eq_getElem?_getD, List.getElem?_set_ne hj, ← List.getD_eq_getElem?_getD]
        exact ih'
      · rw [turnedAt_no (.inr h2)]; exact ih'
    · rw [turnedAt_no (.inl (by simpa using h1))]; exact ih'
theorem burst_get {f : Fr} (hp : putE f = 0) {at0 : Nat} {mask : BitVec 32} (hm : mask.getLsbD 0 = true) (ha : at0 < 8 * (putB f).length) (h2 : Spares (putB f) at0 mask 32 2) (h3 : Spares (putB f) at0 mask 32 3) :
    getE (turnedAt (putB f) at0 mask 32) ≠ 0 := by
  intro he
  obtain ⟨e1, e2⟩ := getE_ok he
  have hs := sizeN_pos e1
  have hl := putB_lenOf hp []
  rw [List.append_nil] at hl
  have hn : lenOf (turnedAt (putB f) at0 mask 32) = f.2.length := by
    unfold lenOf at hl ⊢
    rw [turnedAt_keep h2, turnedAt_keep h3]; exact hl
  have hlen := putB_length hp
  have ht := turnedAt_length (putB f) at0 mask 32
  rw [List.take_of_length_le (by omega)] at e2
  have hb := burst_opens (headOf f.1.toNat f.2.length ++ f.2) at0 mask hm (by rw [← putB_eq hp]; exact ha)
  rw [← putB_eq hp, e2] at hb
  cases hb
theorem spares_succ {bs : List UInt8} {at0 : Nat} {mask : BitVec 32} {k j : Nat} (h : Spares bs at0 mask k j) (hk : mask.getLsbD k = true → at0 + k < 8 * bs.length → (at0 + k) / 8 ≠ j) : Spares bs at0 mask (k + 1) j := fun i hi h1 h2 => by
  by_cases e : i = k
  · subst e; exact hk h1 h2
  · exact h i (by omega) h1 h2
set_option maxRecDepth 100000 in
set_option maxHeartbeats 3200000 in
theorem frameBursts_walk (k : Int) (a : Option Addr) (cap : Nat) (bs : List UInt8) (n : Int) (mask : BitVec 32) (w : World) (hb : CellsB w a bs) (hz : a = none → bs.length = 0) :
    Calls Try.prog 5 #[.agg #[.int .i64 k, .slice a bs.length cap], .int .i64 n, .int .u32 (U mask)] w fun e w' => e = .returned (.bool true) ∧ Below w.heap.size w w' := by
  have HP : Hid (∀ W, CellsB W a bs → Calls Try.prog 11 #[.agg #[.int .i64 k, .slice a bs.length cap]] W (RetRowE 5 1 (putB (k, bs)).length ((putB (k, bs)).map byteV) (putE (k, bs)) W)) := fun W h => put_any k a cap bs W h hz
  clear hz
  by_cases h1 : putE (k, bs) = 0
  · rw [h1] at HP
    have hlp := putB_length h1
    have hle := putE_zero h1
    have hlb : (putB (k, bs)).length ≤ 4104 := by rw [hlp]; have := hle.2.2; omega
    have hlz : 8 ≤ (putB (k, bs)).length := by omega
    clear hlp hle
    by_cases h2 : n < 0
    · clear h1
      generalize putB (k, bs) = B at HP hlb hlz
      go_enter Try.func5, Try.ntmps5
      go_wp2_with (first
        | (go_at_call 10; refine (frameAwake_any _).mono ?_; rintro e w1 ⟨rfl, hd1⟩; have hb1 := alloc_below hd1; obtain ⟨hc0, hc1, hf0, hf1, hlt⟩ := two_cells hd1)
        | (go_at_call 11; refine (HP.out _ (hb.below hb1)).mono ?_; rintro e w2 ⟨a2, c2, rfl, hown2, hd2⟩; have hb2 := bt hb1 hd2))
      go_ret
      exact ⟨rfl, hb2⟩
    · obtain ⟨at0, rfl⟩ : ∃ k : Nat, n = k := ⟨n.toNat, by omega⟩
      have hm0 := U0 mask
      by_cases h3 : at0 < 8 * (putB (k, bs)).length
      · by_cases h4 : mask.getLsbD 0 = true
        · have hmt : (U mask % (2 : Int) == 0) = false := mask_even_no h4
          have HG : Hid (∀ W A c, CellsB W A (turnedAt (putB (k, bs)) at0 mask 32) → (putB (k, bs)).length ≤ c → Spares (putB (k, bs)) at0 mask 32 2 → Spares (putB (k, bs)) at0 mask 32 3 → ∃ f E, (E != 0) = true ∧ Calls Try.prog 13 #[.slice A (putB (k, bs)).length c] W (RetGet f 0 E W)) := fun W A c h hc s2 s3 => by
            have hl : (turnedAt (putB (k, bs)) at0 mask 32).length = (putB (k, bs)).length := turnedAt_length _ _ _ _
            have hne := burst_get h1 h4 h3 s2 s3
            have := get_any A c (turnedAt (putB (k, bs)) at0 mask 32) W h (by rw [hl]; exact hc) (by rw [hl]; omega)
            rw [hl, (get_none hne).1] at this
            exact ⟨_, _, by simpa using hne, this⟩
          clear h1
          generalize putB (k, bs) = B at HP HG hlb hlz h3
          go_enter Try.func5, Try.ntmps5
          go_wp2_with (first
            | (go_at_call 10; refine (frameAwake_any _).mono ?_; rintro e w1 ⟨rfl, hd1⟩; have hb1 := alloc_below hd1; obtain ⟨hc0, hc1, hf0, hf1, hlt⟩ := two_cells hd1)
            | (go_at_call 11; refine (HP.out _ (hb.below hb1)).mono ?_; rintro e w2 ⟨a2, c2, rfl, hown2, hd2⟩; have hb2 := bt hb1 hd2; clear hc0 hc1 hf0 hf1 hlt)
            | (at_builtin; refine wpList_append_row rfl (.const (.slice none 0 0)) (.tmp 45) rfl elemB w2.heap.size (.slice none 0 0) 0 [] (by rfl) (World.ownsRow_nil _ _ _ _) a2 B.length c2 (B.map byteV) (by rfl) (by simp) (RowAt.of_own hown2) (byteV_one _) (by unfold maxLen; omega) (by omega) (Nat.le_refl _) (own_none hown2) ?_; intro a3 c3 w3 hown3 hg3 hat3; simp only [Nat.zero_add, List.nil_append] at hown3; have hb3 : Below w.heap.size w w3 := bt hb2 (Below.appended (Below.refl _ _) (World.ownsRow_nil _ w2.heap.size 5 1) hg3 (Nat.le_refl _) (Nat.le_refl _)); obtain ⟨g, cg, hv, hg1, hg2⟩ := hown3.form (by omega); cases hv; clear hat3 hg3))
          have hgw : w.heap.size ≤ g := Nat.le_trans hb2.size hg1
          go_loopw [11] (fun i wr => ∃ k : Nat, k ≤ 32 ∧ i = .int .i64 k ∧ wr.ownsRow w2.heap.size 5 1 (.slice (some ⟨g, 0, none⟩) B.length c3) B.length ((turnedAt B at0 mask k).map byteV) ∧ Below w.heap.size w wr ∧ Spares B at0 mask k 2 ∧ Spares B at0 mask k 3) (fun i _ => 32 - (intOf i).toNat)
          case atStart => exact ⟨0, by omega, rfl, hown3, hb3, fun i hi => absurd hi (by omega), fun i hi => absurd hi (by omega)⟩
          case round =>
            obtain ⟨k, hk, rfl, hown, hbw, hs2, hs3⟩ := hrel
            have HS2 := Lib.hid hs2
            have HS3 := Lib.hid hs3
            clear hs2 hs3 hmt
            by_cases hlt : k < 32
            · have hlen := turnedAt_length B at0 mask k
              have hk0 : (0 : Int) ≤ (k : Int) := by omega
              have hmt := mask_test mask k
              by_cases hbit : mask.getLsbD k = true
              · rw [hbit] at hmt
                by_cases hin : at0 + k < 8 * B.length
                · by_cases hq2 : (at0 + k) / 8 = 2
                  · have t2 : (((at0 : Int) + (k : Int)) / 8 == 2) = true := beq_iff_eq.2 (by omega)
                    have t3 : (((at0 : Int) + (k : Int)) / 8 == 3) = false := beq_eq_false_iff_ne.2 (by omega)
                    clear hown hown2 hown3 hlen
                    go_wp2
                    go_ret
                    exact ⟨rfl, hbw⟩
                  · by_cases hq3 : (at0 + k) / 8 = 3
                    · have t2 : (((at0 : Int) + (k : Int)) / 8 == 2) = false := beq_eq_false_iff_ne.2 (by omega)
                      have t3 : (((at0 : Int) + (k : Int)) / 8 == 3) = true := beq_iff_eq.2 (by omega)
                      clear hown hown2 hown3 hlen
                      go_wp2
                      go_ret
                      exact ⟨rfl, hbw⟩
                    · have hj : (at0 + k) / 8 < B.length := by omega
                      have hcg := hown.cellAt ((at0 + k) / 8) (by omega)
                      rw [byte_cell (by rw [hlen]; exact hj)] at hcg
                      have hfg := hown.frozenAt ((at0 + k) / 8)
                      have HS := Lib.hid (turnedAt_row hbit hin)
                      generalize ((turnedAt B at0 mask k).getD ((at0 + k) / 8) 0).toNat = G at hcg HS
                      have HO := Lib.hid hown
                      have HQ2 : Hid (Spares B at0 mask (k + 1) 2) := spares_succ HS2.out (fun _ _ => hq2)
                      have HQ3 : Hid (Spares B at0 mask (k + 1) 3) := spares_succ HS3.out (fun _ _ => hq3)
                      have t2 : (((at0 : Int) + (k : Int)) / 8 == 2) = false := beq_eq_false_iff_ne.2 (by omega)
                      have t3 : (((at0 : Int) + (k : Int)) / 8 == 3) = false := beq_eq_false_iff_ne.2 (by omega)
                      clear hown hown2 hown3 hq2 hq3 hlen
                      go_wp2
                      go_roundw
                      case rel => exact ⟨k + 1, by omega, by go_num, by rw [← HS.out]; exact (HO.out.stored ((at0 + k) / 8) _).1, hbw.setCell (p := ⟨g, (at0 + k) / 8, none⟩) hgw _, HQ2.out, HQ3.out⟩
                      case measure => simp [intOf]; omega
                · have HS := Lib.hid (turnedAt_no (bs := B) (at0 := at0) (mask := mask) (k := k) (.inr hin))
                  have HO := Lib.hid hown
                  have HQ2 : Hid (Spares B at0 mask (k + 1) 2) := spares_succ HS2.out (fun h1 h2 => absurd h2 hin)
                  have HQ3 : Hid (Spares B at0 mask (k + 1) 3) := spares_succ HS3.out (fun h1 h2 => absurd h2 hin)
                  clear hown hown2 hown3
                  go_wp2
                  go_roundw
                  case rel => exact ⟨k + 1, by omega, by go_num, by rw [HS.out]; exact HO.out, hbw, HQ2.out, HQ3.out⟩
                  case measure => simp [intOf]; omega
              · have hbit : mask.getLsbD k = false := by simpa using hbit
                rw [hbit] at hmt
                have HS := Lib.hid (turnedAt_no (bs := B) (at0 := at0) (mask := mask) (k := k) (.inl hbit))
                have HO := Lib.hid hown
                have HQ2 : Hid (Spares B at0 mask (k + 1) 2) := spares_succ HS2.out (fun h1 h2 => absurd h1 (by rw [hbit]; decide))
                have HQ3 : Hid (Spares B at0 mask (k + 1) 3) := spares_succ HS3.out (fun h1 h2 => absurd h1 (by rw [hbit]; decide))
                clear hown hown2 hown3
                go_wp2
                go_roundw
                case rel => exact ⟨k + 1, by omega, by go_num, by rw [HS.out]; exact HO.out, hbw, HQ2.out, HQ3.out⟩
                case measure => simp [intOf]; omega
            · obtain rfl : k = 32 := by omega
              obtain ⟨f, E, hE, hget⟩ := HG.out wr (some ⟨g, 0, none⟩) c3 (RowAt.of_own hown) (own_le hown) HS2.out HS3.out
              have HGET := Lib.hid hget
              clear hget hown2 hown3
              go_wp2_with (go_at_call 13; refine HGET.out.mono ?_; rintro e w4 ⟨a4, c4, rfl, _, _, _, hd4⟩)
              go_ret
              exact ⟨rfl, (bt hbw hd4).alloc (bt hbw hd4).size _⟩
        · have hmt : (U mask % (2 : Int) == 0) = true := mask_even_yes (by simpa using h4)
          clear h1 h4
          generalize putB (k, bs) = B at HP h3 hlb hlz
          go_enter Try.func5, Try.ntmps5
          go_wp2_with (first
            | (go_at_call 10; refine (frameAwake_any _).mono ?_; rintro e w1 ⟨rfl, hd1⟩; have hb1 := alloc_below hd1; obtain ⟨hc0, hc1, hf0, hf1, hlt⟩ := two_cells hd1)
            | (go_at_call 11; refine (HP.out _ (hb.below hb1)).mono ?_; rintro e w2 ⟨a2, c2, rfl, hown2, hd2⟩; have hb2 := bt hb1 hd2))
          go_ret
          exact ⟨rfl, hb2⟩
      · have h3i : 8 * ((putB (k, bs)).length : Int) ≤ (at0 : Int) := by omega
        clear h1 h3
        generalize putB (k, bs) = B at HP h3i hlb hlz
        go_enter Try.func5, Try.ntmps5
        go_wp2_with (first
          | (go_at_call 10; refine (frameAwake_any _).mono ?_; rintro e w1 ⟨rfl, hd1⟩; have hb1 := alloc_below hd1; obtain ⟨hc0, hc1, hf0, hf1, hlt⟩ := two_cells hd1)
          | (go_at_call 11; refine (HP.out _ (hb.below hb1)).mono ?_; rintro e w2 ⟨a2, c2, rfl, hown2, hd2⟩; have hb2 := bt hb1 hd2))
        go_ret
        exact ⟨rfl, hb2⟩
  · have ht : (putE (k, bs) != 0) = true := by simpa using h1
    clear h1
    generalize putE (k, bs) = E at HP ht
    generalize putB (k, bs) = B at HP
    go_enter Try.func5, Try.ntmps5
    go_wp2_with (first
      | (go_at_call 10; refine (frameAwake_any _).mono ?_; rintro e w1 ⟨rfl, hd1⟩; have hb1 := alloc_below hd1; obtain ⟨hc0, hc1, hf0, hf1, hlt⟩ := two_cells hd1)
      | (go_at_call 11; refine (HP.out _ (hb.below hb1)).mono ?_; rintro e w2 ⟨a2, c2, rfl, hown2, hd2⟩; have hb2 := bt hb1 hd2))
    go_ret
    exact ⟨rfl, hb2⟩
end Go.Proofs.Ytbonockefjenaaa
