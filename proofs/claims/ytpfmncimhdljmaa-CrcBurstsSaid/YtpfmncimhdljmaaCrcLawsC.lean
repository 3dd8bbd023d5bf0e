/-
  Layer 1's laws, third part: texts of one length, byte by byte; bursts.
-/
import Derived.Test.YtpfmncimhdljmaaCrcWalksD
import Derived.Test.YtpfmncimhdljmaaCrcMathC
import Derived.Test.YtpfmncimhdljmaaCrcLawsB
import Derived.Test.YtpfmncimhdljmaaSlices
import Derived.Test.YtpfmncimhdljmaaRowBytes
namespace Go.Proofs.Ytpfmncimhdljmaa
open Go.RowKit

/-- The texts' exclusive or, of which the first k bytes are made. -/
def lin (a b c : List UInt8) (k : Nat) : List UInt8 := (xor3 a b c).take k ++ List.replicate (a.length - k) 0
theorem xor3_length (a b c : List UInt8) : (xor3 a b c).length = a.length := by simp [xor3]
theorem lin_length (a b c : List UInt8) (k : Nat) (hk : k ≤ a.length) : (lin a b c k).length = a.length := by
  simp [lin, xor3_length]; omega
theorem lin_zero (a b c : List UInt8) : lin a b c 0 = List.replicate a.length 0 := by simp [lin]
theorem lin_all (a b c : List UInt8) : lin a b c a.length = xor3 a b c := by simp [lin, xor3_length, List.take_of_length_le]
theorem lin_set (a b c : List UInt8) (k : Nat) (hk : k < a.length) : (lin a b c k).set k (a.getD k 0 ^^^ b.getD k 0 ^^^ c.getD k 0) = lin a b c (k + 1) := by
  unfold lin
  have hl : ((xor3 a b c).take k).length = k := by rw [List.length_take, xor3_length]; omega
  rw [List.set_append_right _ _ (by omega), hl, Nat.sub_self]
  have hr : a.length - k = (a.length - (k + 1)) + 1 := by omega
  rw [hr, List.replicate_succ, List.set_cons_zero, List.take_succ_eq_append_getElem (by rw [xor3_length]; exact hk), List.append_assoc]
  congr 2
  simp [xor3]
theorem lin_row (a b c : List UInt8) : (madeCells (Value.int .u8 0).cells (a.length * 1)).toList = (lin a b c 0).map byteV := by
  rw [lin_zero, Nat.mul_one, List.map_replicate]
  exact toList_madeCells_one _ _
theorem lin_store (a b c : List UInt8) (k : Nat) (hk : k < a.length) : ((lin a b c k).map byteV).set k (.int .u8 ((a.getD k 0 ^^^ b.getD k 0 ^^^ c.getD k 0).toNat : Int)) = (lin a b c (k + 1)).map byteV := by
  rw [← lin_set a b c k hk]; exact (map_set_byte _ _ _)
theorem sum_linear (a b c : List UInt8) (h1 : a.length = b.length) (h2 : a.length = c.length) : bits .xor .u32 (bits .xor .u32 (U (sum a)) (U (sum b))) (U (sum c)) = U (sum (xor3 a b c)) := by
  rw [bits_xor_U, bits_xor_U, sum_xor3 a b c h1 h2]
set_option maxHeartbeats 1600000 in
theorem crcLinear_walk (a1 : Option Addr) (cap1 : Nat) (xs : List UInt8) (a2 : Option Addr) (cap2 : Nat) (bs : List UInt8) (a3 : Option Addr) (cap3 : Nat) (cs : List UInt8) (w : World) (ha : CellsB w a1 xs) (hb : CellsB w a2 bs) (hc : CellsB w a3 cs) :
    Calls Try.prog 4 #[.slice a1 xs.length cap1, .slice a2 bs.length cap2, .slice a3 cs.length cap3] w fun e w' => e = .returned (.bool true) ∧ Below w.heap.size w w' := by
  by_cases h1 : (2000 : Int) < (xs.length : Int)
  · clear ha hb hc
    go_enter Try.func4, Try.ntmps4
    go_wp2_with (go_at_call 11; refine (awake_any _).mono ?_; rintro e w1 ⟨rfl, hb1⟩)
    go_ret
    exact ⟨rfl, hb1⟩
  · by_cases h2 : xs.length = bs.length
    · have t2 : ((xs.length : Int) != (bs.length : Int)) = false := by simp [h2]
      by_cases h3 : xs.length = cs.length
      · have t3 : ((xs.length : Int) != (cs.length : Int)) = false := by simp [h3]
        have H2 := Lib.hid h2
        have H3 := Lib.hid h3
        clear h2 h3
        obtain ⟨i0, hi, hz0, hz1, hz2⟩ := info_parts elemB.info
        go_enter Try.func4, Try.ntmps4
        go_wp2_with (first
          | (go_at_call 11; refine (awake_any _).mono ?_; rintro e w1 ⟨rfl, hb1⟩)
          | (at_make; refine wpList_make_full _ rfl (.tmp 34) (.tmp 34) _ rfl w.heap.size 5 i0 (.int .u8 0) 1 Try.underlying23 hi hz0 hz1 .i64 .i64 (xs.length : Int) (xs.length : Int) xs.length (by rfl) (by rfl) rfl rfl (by rw [hz2]; omega) (by unfold maxLen; omega) hb1.size ?_; intro w2 hown2 hg2; have hb2 : Below w.heap.size w w2 := hb1.grown hg2 hb1.size (by simp); rw [lin_row xs bs cs] at hown2))
        have hgw : w.heap.size ≤ w1.heap.size := hb1.size
        generalize w1.heap.size = g at hown2 hgw
        clear hg2
        go_loopw [9] (fun i wr => ∃ k : Nat, k ≤ xs.length ∧ i = .int .i64 k ∧ wr.ownsRow w.heap.size 5 1 (.slice (some ⟨g, 0, none⟩) xs.length xs.length) xs.length ((lin xs bs cs k).map byteV) ∧ Below w.heap.size w wr) (fun i _ => xs.length - (intOf i).toNat)
        case atStart => exact ⟨0, by omega, rfl, hown2, hb2⟩
        case round =>
          obtain ⟨k, hk, rfl, hown, hbw⟩ := hrel
          by_cases hlt : k < xs.length
          · have hlt2 : k < bs.length := by have := H2.out; omega
            have hlt3 : k < cs.length := by have := H3.out; omega
            have HS := Lib.hid (lin_store xs bs cs k hlt)
            obtain ⟨b1, o1, rfl, l1, c1⟩ := CellsB.at ha hlt
            obtain ⟨b2, o2, rfl, l2, c2⟩ := CellsB.at hb hlt2
            obtain ⟨b3, o3, rfl, l3, c3⟩ := CellsB.at hc hlt3
            rw [← hbw.cell (p := ⟨b1, o1 + k, none⟩) l1] at c1
            rw [← hbw.cell (p := ⟨b2, o2 + k, none⟩) l2] at c2
            rw [← hbw.cell (p := ⟨b3, o3 + k, none⟩) l3] at c3
            have hcg := hown.cellAt k (by omega)
            have hlk : k < (lin xs bs cs k).length := by rw [lin_length _ _ _ _ (by omega)]; exact hlt
            rw [byte_cell hlk] at hcg
            have hfg := hown.frozenAt k
            have hx1 := u8_xor_bytes (xs.getD k 0) (bs.getD k 0)
            have hx2 := u8_xor_bytes (xs.getD k 0 ^^^ bs.getD k 0) (cs.getD k 0)
            generalize (xs.getD k 0 ^^^ bs.getD k 0 ^^^ cs.getD k 0).toNat = V at hx2 HS
            generalize (xs.getD k 0 ^^^ bs.getD k 0).toNat = V1 at hx1 hx2
            generalize (xs.getD k 0).toNat = A at hx1 c1
            generalize (bs.getD k 0).toNat = B at hx1 c2
            generalize (cs.getD k 0).toNat = C at hx2 c3
            generalize ((lin xs bs cs k).getD k 0).toNat = G at hcg
            have hk0 : (0 : Int) ≤ (k : Int) := by omega
            have hk1 : (k : Int) < (xs.length : Int) := by omega
            have hk2 : (k : Int) < (bs.length : Int) := by omega
            have hk3 : (k : Int) < (cs.length : Int) := by omega
            have HO := Lib.hid hown
            have hd : ∀ b o v, b < w.heap.size → (wr.setCell ⟨g, k, none⟩ v).cell? ⟨b, o, none⟩ = wr.cell? ⟨b, o, none⟩ := fun b o v hlt => World.cell?_of_block (Below.heap_setCell wr ⟨g, k, none⟩ v b (by show b ≠ g; omega))
            clear hown ha hb hc
            go_wp2
            go_region_held3 (fun W => W.cell? ⟨b1, o1 + k, none⟩ = some (.int .u8 (A : Int)) ∧ W.cell? ⟨b2, o2 + k, none⟩ = some (.int .u8 (B : Int)) ∧ W.cell? ⟨b3, o3 + k, none⟩ = some (.int .u8 (C : Int))) (first | exact ⟨c1, c2, c3⟩ | exact ⟨(hd _ _ _ l1).trans c1, (hd _ _ _ l2).trans c2, (hd _ _ _ l3).trans c3⟩) (fail)
            go_wp2
            go_roundw
            case rel => exact ⟨k + 1, by omega, by go_num, by rw [← HS.out]; exact (HO.out.stored k _).1, (hbw.setCell (p := ⟨g, k, none⟩) hgw _).drew⟩
            case measure => simp [intOf]; omega
          · obtain rfl : k = xs.length := by omega
            rw [lin_all] at hown
            have hl3 : (xor3 xs bs cs).length = xs.length := xor3_length _ _ _
            have hc4 : Hid (∀ W A c, CellsB W A (xor3 xs bs cs) → Calls Try.prog 14 #[.slice A xs.length c] W fun e w' => e = .returned (.int .u32 (U (sum (xor3 xs bs cs)))) ∧ Below W.heap.size W w') := fun W A c h => by
              have := sum_any A c (xor3 xs bs cs) W h (by omega)
              rwa [hl3] at this
            have hsum := sum_linear xs bs cs H2.out H3.out
            clear hl3 t2 t3
            have hl2 : (bs.length : Int) ≤ 2000 := by have := H2.out; omega
            have hl3 : (cs.length : Int) ≤ 2000 := by have := H3.out; omega
            go_wp2_with fail
            refine (hc4.out _ _ _ (RowAt.of_own hown)).mono ?_
            rintro e w4 ⟨rfl, hd4⟩
            have hb4 := bt hbw hd4
            go_wp2_with fail
            refine (sum_any a1 cap1 xs _ (ha.below hb4) (by omega)).mono ?_
            rintro e w5 ⟨rfl, hd5⟩
            have hb5 := bt hb4 hd5
            go_wp2_with fail
            refine (sum_any a2 cap2 bs _ (hb.below hb5) (by omega)).mono ?_
            rintro e w6 ⟨rfl, hd6⟩
            have hb6 := bt hb5 hd6
            go_wp2_with fail
            refine (sum_any a3 cap3 cs _ (hc.below hb6) (by omega)).mono ?_
            rintro e w7 ⟨rfl, hd7⟩
            have hb7 := bt hb6 hd7
            go_wp2_with fail
            go_ret
            exact ⟨rfl, hb7⟩
      · have t3 : ((xs.length : Int) != (cs.length : Int)) = true := by simp; omega
        clear ha hb hc h2
        go_enter Try.func4, Try.ntmps4
        go_wp2_with (go_at_call 11; refine (awake_any _).mono ?_; rintro e w1 ⟨rfl, hb1⟩)
        go_ret
        exact ⟨rfl, hb1⟩
    · have t2 : ((xs.length : Int) != (bs.length : Int)) = true := by simp; omega
      clear ha hb hc
      go_enter Try.func4, Try.ntmps4
      go_wp2_with (go_at_call 11; refine (awake_any _).mono ?_; rintro e w1 ⟨rfl, hb1⟩)
      go_ret
      exact ⟨rfl, hb1⟩
theorem mask_even_no {mask : BitVec 32} (h : mask.getLsbD 0 = true) : (U mask % (2 : Int) == 0) = false := by
  rw [lsb_toNat] at h
  unfold U
  simp at h ⊢
  omega
theorem mask_even_yes {mask : BitVec 32} (h : mask.getLsbD 0 = false) : (U mask % (2 : Int) == 0) = true := by
  rw [lsb_toNat] at h
  unfold U
  simp at h ⊢
  omega
set_option maxHeartbeats 1600000 in
theorem turned_any (a : Option Addr) (cap : Nat) (bs : List UInt8) (at0 : Nat) (mask : BitVec 32) (w : World) (hb : CellsB w a bs) (hz : a = none → bs.length = 0) (hl : bs.length ≤ 900000) (hat : at0 < 8 * bs.length) :
    Calls Try.prog 22 #[.slice a bs.length cap, .int .i64 at0, .int .u32 (U mask)] w (RetRow 5 1 bs.length ((turnedAt bs at0 mask 32).map byteV) w) := by
  have HZ := Lib.hid hz
  clear hz
  go_enter Try.func22, Try.ntmps22
  go_wp2_with (at_builtin; refine wpList_append_row rfl (.const (.slice none 0 0)) (.tmp 10) rfl elemB w.heap.size (.slice none 0 0) 0 [] (by rfl) (World.ownsRow_nil _ _ _ _) a bs.length cap (bs.map byteV) (by rfl) (by simp) hb (byteV_one _) (by unfold maxLen; omega) (by omega) (Nat.le_refl _) HZ.out ?_; intro a2 c2 w2 hown2 hg2 hat2; simp only [Nat.zero_add, List.nil_append] at hown2; have hb2 : Below w.heap.size w w2 := Below.appended (Below.refl _ _) (World.ownsRow_nil _ w.heap.size 5 1) hg2 (Nat.le_refl _) (Nat.le_refl _); obtain ⟨g, cg, hv, hg1, hg3⟩ := hown2.form (by omega); cases hv; clear hat2 hg2)
  go_loopw [8] (fun i wr => ∃ k : Nat, k ≤ 32 ∧ i = .int .i64 k ∧ wr.ownsRow w.heap.size 5 1 (.slice (some ⟨g, 0, none⟩) bs.length c2) bs.length ((turnedAt bs at0 mask k).map byteV) ∧ Below w.heap.size w wr) (fun i _ => 32 - (intOf i).toNat)
  case atStart => exact ⟨0, by omega, rfl, hown2, hb2⟩
  case round =>
    obtain ⟨k, hk, rfl, hown, hbw⟩ := hrel
    by_cases hlt : k < 32
    · have hlen := turnedAt_length bs at0 mask k
      have hk0 : (0 : Int) ≤ (k : Int) := by omega
      have hm0 := U0 mask
      have hmt := mask_test mask k
      by_cases hbit : mask.getLsbD k = true
      · by_cases hin : at0 + k < 8 * bs.length
        · have hj : (at0 + k) / 8 < bs.length := by omega
          have hcg := hown.cellAt ((at0 + k) / 8) (by omega)
          rw [byte_cell (by rw [hlen]; exact hj)] at hcg
          have hfg := hown.frozenAt ((at0 + k) / 8)
          rw [hbit] at hmt
          have HS := Lib.hid (turnedAt_row hbit hin)
          generalize ((turnedAt bs at0 mask k).getD ((at0 + k) / 8) 0).toNat = B at hcg HS
          have HO := Lib.hid hown
          clear hown hown2
          go_wp2
          go_roundw
          case rel => exact ⟨k + 1, by omega, by go_num, by rw [← HS.out]; exact (HO.out.stored ((at0 + k) / 8) _).1, hbw.setCell (p := ⟨g, (at0 + k) / 8, none⟩) hg1 _⟩
          case measure => simp [intOf]; omega
        · rw [hbit] at hmt
          have HS := Lib.hid (turnedAt_no (bs := bs) (at0 := at0) (mask := mask) (k := k) (.inr hin))
          have HO := Lib.hid hown
          clear hown hown2
          go_wp2
          go_roundw
          case rel => exact ⟨k + 1, by omega, by go_num, by rw [HS.out]; exact HO.out, hbw⟩
          case measure => simp [intOf]; omega
      · have hbit : mask.getLsbD k = false := by simpa using hbit
        rw [hbit] at hmt
        have HS := Lib.hid (turnedAt_no (bs := bs) (at0 := at0) (mask := mask) (k := k) (.inl hbit))
        have HO := Lib.hid hown
        clear hown hown2
        go_wp2
        go_roundw
        case rel => exact ⟨k + 1, by omega, by go_num, by rw [HS.out]; exact HO.out, hbw⟩
        case measure => simp [intOf]; omega
    · obtain rfl : k = 32 := by omega
      go_wp2
      go_ret
      exact ⟨some ⟨g, 0, none⟩, c2, rfl, hown, hbw⟩
set_option maxHeartbeats 1600000 in
theorem crcBursts_walk (a : Option Addr) (cap : Nat) (bs : List UInt8) (n : Int) (mask : BitVec 32) (w : World) (hb : CellsB w a bs) (hz : a = none → bs.length = 0) :
    Calls Try.prog 10 #[.slice a bs.length cap, .int .i64 n, .int .u32 (U mask)] w fun e w' => e = .returned (.bool true) ∧ Below w.heap.size w w' := by
  have HZ := Lib.hid hz
  clear hz
  by_cases h1 : (4000 : Int) < (bs.length : Int)
  · clear hb
    go_enter Try.func10, Try.ntmps10
    go_wp2_with (go_at_call 11; refine (awake_any _).mono ?_; rintro e w1 ⟨rfl, hb1⟩)
    go_ret
    exact ⟨rfl, hb1⟩
  · by_cases h2 : n < 0
    · clear hb
      go_enter Try.func10, Try.ntmps10
      go_wp2_with (go_at_call 11; refine (awake_any _).mono ?_; rintro e w1 ⟨rfl, hb1⟩)
      go_ret
      exact ⟨rfl, hb1⟩
    · obtain ⟨at0, rfl⟩ : ∃ k : Nat, n = k := ⟨n.toNat, by omega⟩
      have hm0 := U0 mask
      have hsl : Hid ((sealed bs).length = bs.length + 4) := sealed_length bs
      by_cases h3 : at0 < 8 * (bs.length + 4)
      · by_cases h4 : mask.getLsbD 0 = true
        · have hmt : (U mask % (2 : Int) == 0) = false := mask_even_no h4
          have HT : Hid (∀ W A c, CellsB W A (sealed bs) → (A = none → bs.length + 4 = 0) → Calls Try.prog 22 #[.slice A (bs.length + 4) c, .int .i64 at0, .int .u32 (U mask)] W (RetRow 5 1 (bs.length + 4) ((turnedAt (sealed bs) at0 mask 32).map byteV) W)) := fun W A c h hz => by
            have := turned_any A c (sealed bs) at0 mask W h (by rw [hsl.out]; exact hz) (by rw [hsl.out]; omega) (by rw [hsl.out]; exact h3)
            rwa [hsl.out] at this
          have HO : Hid (∀ W A c, CellsB W A (turnedAt (sealed bs) at0 mask 32) → bs.length + 4 ≤ c → Calls Try.prog 19 #[.slice A (bs.length + 4) c] W (RetRowOk 5 1 0 [] false W)) := fun W A c h hc => by
            have hl : (turnedAt (sealed bs) at0 mask 32).length = bs.length + 4 := by rw [turnedAt_length, hsl.out]
            have ho := burst_opens bs at0 mask h4 (by rw [hsl.out]; exact h3)
            have := open_any A c (turnedAt (sealed bs) at0 mask 32) W h (by rw [hl]; exact hc) (by rw [hl]; omega)
            rw [opened, ho] at this
            simpa [hl] using this
          go_enter Try.func10, Try.ntmps10
          go_wp2_with (go_at_call 11; refine (awake_any _).mono ?_; rintro e w1 ⟨rfl, hb1⟩)
          refine (sealB_any a cap bs _ (hb.below hb1) HZ.out (by omega)).mono ?_
          rintro e w2 ⟨a2, cap2, rfl, hown2, hd2⟩
          have hb2 := bt hb1 hd2
          go_wp2_with fail
          refine (HT.out _ a2 cap2 (RowAt.of_own hown2) (own_none hown2)).mono ?_
          rintro e w3 ⟨a3, cap3, rfl, hown3, hd3⟩
          have hb3 := bt hb2 hd3
          go_wp2_with fail
          refine (HO.out _ a3 cap3 (RowAt.of_own hown3) (own_le hown3)).mono ?_
          rintro e w4 ⟨a4, cap4, rfl, _, hd4⟩
          have hb4 := bt hb3 hd4
          go_wp2_with fail
          go_ret
          exact ⟨rfl, hb4⟩
        · have hmt : (U mask % (2 : Int) == 0) = true := mask_even_yes (by simpa using h4)
          go_enter Try.func10, Try.ntmps10
          go_wp2_with (go_at_call 11; refine (awake_any _).mono ?_; rintro e w1 ⟨rfl, hb1⟩)
          refine (sealB_any a cap bs _ (hb.below hb1) HZ.out (by omega)).mono ?_
          rintro e w2 ⟨a2, cap2, rfl, hown2, hd2⟩
          have hb2 := bt hb1 hd2
          go_wp2_with fail
          go_ret
          exact ⟨rfl, hb2⟩
      · go_enter Try.func10, Try.ntmps10
        go_wp2_with (go_at_call 11; refine (awake_any _).mono ?_; rintro e w1 ⟨rfl, hb1⟩)
        refine (sealB_any a cap bs _ (hb.below hb1) HZ.out (by omega)).mono ?_
        rintro e w2 ⟨a2, cap2, rfl, hown2, hd2⟩
        have hb2 := bt hb1 hd2
        go_wp2_with fail
        go_ret
        exact ⟨rfl, hb2⟩
end Go.Proofs.Ytpfmncimhdljmaa
