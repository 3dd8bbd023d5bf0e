/-
  Layer 2's laws, second part: FieldsPacks, FieldsLong.
-/
import Derived.Test.YtipngfdibcapjaaFieldsG
namespace Go.Proofs.Ytipngfdibcapjaa
open Go.RowKit
set_option linter.unusedVariables false
set_option maxHeartbeats 1600000 in
theorem fieldsPacks_walk (a : Option Addr) (c : Nat) (ns : List Int) (d : Option Addr) (cd : Nat) (bs : List UInt8) (n : Int) (hn : (Lit.int .i64 n).wf = true) (w : World) (hi : IntsIn w a c ns) (hb : BytesIn w d cd bs) :
    Calls Try.prog 3 #[.agg #[.slice a ns.length c, .slice d bs.length cd], .int .i64 n] w fun e w' => e = .returned (.bool true) ∧ Below w.heap.size w w' := by
  by_cases h1 : (300 : Int) < (ns.length : Int)
  · clear hi hb
    go_enter Try.func3, Try.ntmps3
    go_wp2_with (go_at_call 11; refine (fieldsAwake_any _).mono ?_; rintro e w1 ⟨rfl, hd1⟩; obtain ⟨hc0, hc1, _, _, _⟩ := two_cells hd1)
    go_ret
    exact ⟨rfl, alloc_below hd1⟩
  by_cases h2 : (5000 : Int) < (bs.length : Int)
  · clear hi hb
    go_enter Try.func3, Try.ntmps3
    go_wp2_with (go_at_call 11; refine (fieldsAwake_any _).mono ?_; rintro e w1 ⟨rfl, hd1⟩; obtain ⟨hc0, hc1, _, _, _⟩ := two_cells hd1)
    go_ret
    exact ⟨rfl, alloc_below hd1⟩
  have HP : Hid (∀ W, Below w.heap.size w W → Calls Try.prog 12 #[.agg #[.slice a ns.length c, .slice d bs.length cd]] W (RetRowE 5 1 (packB (ns, bs)).length ((packB (ns, bs)).map byteV) (packE (ns, bs)) W)) := fun W h => pack_any a c ns d cd bs W ⟨hi.cells.below h, hi.cap, hi.none_, hi.wf⟩ (hb.cells.below h) hb.none_
  have HR : Hid (∀ W, Below w.heap.size w W → Calls Try.prog 13 #[.agg #[.slice a ns.length c, .slice d bs.length cd]] W (RetRowE 5 1 (packB (ns, bs)).length ((packB (ns, bs)).map byteV) (packE (ns, bs)) W)) := fun W h => refPack_any a c ns d cd bs W ⟨hi.cells.below h, hi.cap, hi.none_, hi.wf⟩ (hb.cells.below h) hb.none_
  have HS : Hid (∀ W, Calls Try.prog 14 #[.int .i64 n] W fun e w' => e = .returned (.int .i64 (sizeI n)) ∧ w' = W) := fun W => size_any n hn W
  have HS2 : Hid (∀ W, Calls Try.prog 15 #[.int .i64 n] W fun e w' => e = .returned (.int .i64 (sizeI n)) ∧ w' = W) := fun W => refSize_any n hn W
  generalize packB (ns, bs) = B at HP HR
  generalize packE (ns, bs) = E at HP HR
  generalize sizeI n = s at HS HS2
  clear hi hb
  go_enter Try.func3, Try.ntmps3
  go_wp2_with (first
    | (go_at_call 11; refine (fieldsAwake_any _).mono ?_; rintro e w1 ⟨rfl, hd1⟩; obtain ⟨hc0, hc1, _, _, hlt1⟩ := two_cells hd1; have hb1 := alloc_below hd1)
    | (go_at_call 12; refine (HP.out w1 hb1).mono ?_; rintro e w2 ⟨a2, c2, rfl, hown2, hd2⟩; have hc02 := ((bcell hd2).1 _ _ hlt1).trans hc0; have hc12 := ((bcell hd2).1 _ _ hlt1).trans hc1; have hb2 := bt hb1 hd2)
    | (go_at_call 13; refine (HR.out w2 hb2).mono ?_; rintro e w3 ⟨a3, c3, rfl, hown3, hd3⟩; have hb3 := bt hb2 hd3; have hcv2 := run_convert_cells (bs := B) c2 w3 (RowAt.of_own (own_below hown2 hd3)) (own_none hown2); have hcv3 := run_convert_cells (bs := B) c3 w3 (RowAt.of_own hown3) (own_none hown3))
    | (go_at_call 14; refine (HS.out w3).mono ?_; rintro e w4 ⟨rfl, hw'⟩; obtain rfl : w3 = w4 := hw'.symm)
    | (go_at_call 15; refine (HS2.out w3).mono ?_; rintro e w4 ⟨rfl, hw'⟩; obtain rfl : w3 = w4 := hw'.symm))
  go_ret
  exact ⟨by simp, hb3⟩
/-- How many bytes all numbers need. -/
def sumSz (ns : List Int) : Nat := (ns.map fun n => dsz n.toNat).sum
theorem nums_sum (ns : List Int) : (ns.flatMap numB).length = ns.length + sumSz ns := by
  induction ns with
  | nil => rfl
  | cons n ns ih => rw [List.flatMap_cons, List.length_append, numB_length, ih, sumSz, sumSz, List.map_cons, List.sum_cons, List.length_cons]; omega
theorem packX_length (f : Fl) : (packX f).length = 3 + f.2.length + f.1.length + sumSz f.1 := by
  unfold packX digs
  rw [List.length_append, List.length_append, List.length_cons, nums_sum, digsP_length]; omega
theorem sum_goes {ns : List Int} {k : Nat} {m : Nat} {s : Nat} (hk : ns[k]? = some (m : Int)) (hs : sumSz (ns.take k) = s) : sumSz (ns.take (k + 1)) = s + dsz m := by
  rw [List.take_add_one, hk, ← hs]
  simp [sumSz]
theorem sum_le {ns : List Int} (h : ∀ n ∈ ns, 0 ≤ n ∧ n < 72057594037927936) : sumSz ns ≤ ns.length * 7 := by
  induction ns with
  | nil => simp [sumSz]
  | cons n ns ih =>
    rw [sumSz, List.map_cons, List.sum_cons, List.length_cons]
    have h1 := h n (by simp)
    have := dsz_le7 (n := n.toNat) (by omega)
    have := ih fun m hm => h m (by simp [hm])
    unfold sumSz at this
    omega
set_option maxHeartbeats 1600000 in
theorem fieldsLong_walk (a : Option Addr) (c : Nat) (ns : List Int) (d : Option Addr) (cd : Nat) (bs : List UInt8) (w : World) (hi : IntsIn w a c ns) (hb : BytesIn w d cd bs) :
    Calls Try.prog 5 #[.agg #[.slice a ns.length c, .slice d bs.length cd]] w fun e w' => e = .returned (.bool true) ∧ Below w.heap.size w w' := by
  by_cases h1 : (300 : Int) < (ns.length : Int)
  · clear hi hb
    go_enter Try.func5, Try.ntmps5
    go_wp2_with (go_at_call 11; refine (fieldsAwake_any _).mono ?_; rintro e w1 ⟨rfl, hd1⟩; obtain ⟨hc0, hc1, _, _, _⟩ := two_cells hd1)
    go_ret
    exact ⟨rfl, alloc_below hd1⟩
  by_cases h2 : (5000 : Int) < (bs.length : Int)
  · clear hi hb
    go_enter Try.func5, Try.ntmps5
    go_wp2_with (go_at_call 11; refine (fieldsAwake_any _).mono ?_; rintro e w1 ⟨rfl, hd1⟩; obtain ⟨hc0, hc1, _, _, _⟩ := two_cells hd1)
    go_ret
    exact ⟨rfl, alloc_below hd1⟩
  have HP : Hid (∀ W, Below w.heap.size w W → Calls Try.prog 12 #[.agg #[.slice a ns.length c, .slice d bs.length cd]] W (RetRowE 5 1 (packB (ns, bs)).length ((packB (ns, bs)).map byteV) (packE (ns, bs)) W)) := fun W h => pack_any a c ns d cd bs W ⟨hi.cells.below h, hi.cap, hi.none_, hi.wf⟩ (hb.cells.below h) hb.none_
  have hcn := hi.cells
  have HWF := Lib.hid hi.wf
  by_cases he : packE (ns, bs) = 0
  · have hz := packE_zero he
    have HZ := Lib.hid hz.2.2
    have HL : Hid ((packB (ns, bs)).length = 3 + bs.length + ns.length + sumSz ns) := by rw [Hid, packB_eq he, packX_length]
    have hsl : sumSz ns ≤ 1785 := by have h255 : ns.length ≤ 255 := hz.1; have := sum_le (ns := ns) hz.2.2; omega
    have HSL := Lib.hid hsl
    rw [he] at HP
    generalize packB (ns, bs) = B at HP HL
    clear hi hb he hz hsl
    go_enter Try.func5, Try.ntmps5
    go_wp2_with (first
      | (go_at_call 11; refine (fieldsAwake_any _).mono ?_; rintro e w1 ⟨rfl, hd1⟩; obtain ⟨hc0, hc1, _, _, hlt1⟩ := two_cells hd1; have hb1 := alloc_below hd1)
      | (go_at_call 12; refine (HP.out w1 hb1).mono ?_; rintro e w2 ⟨a2, c2, rfl, hown2, hd2⟩; have hc02 := ((bcell hd2).1 _ _ hlt1).trans hc0; have hc12 := ((bcell hd2).1 _ _ hlt1).trans hc1; have hb2 := bt hb1 hd2))
    clear hc0 hc1 hc12
    go_loopw [6, 7] (fun v i wr => ∃ (k s : Nat), k ≤ ns.length ∧ i = .int .i64 k ∧ v = .int .i64 (3 + (bs.length : Int) + (ns.length : Int) + (s : Int)) ∧ s ≤ k * 7 ∧ Hid (sumSz (ns.take k) = s) ∧ wr = w2) (fun _ i _ => ns.length - (intOf i).toNat)
    case atStart => exact ⟨0, 0, by omega, rfl, by simp, by omega, rfl, rfl⟩
    case round =>
      obtain ⟨k, s, hk, rfl, rfl, hs, HK, rfl⟩ := hrel
      by_cases hlt : k < ns.length
      · obtain ⟨b, off, rfl, hblt, hc⟩ := hcn.at hlt
        have hwf := HWF.out _ (List.getElem_mem hlt)
        have hx := HZ.out _ (List.getElem_mem hlt)
        have hcW := ((bcell hb2).1 _ _ hblt).trans hc
        have HG : Hid (ns[k]? = some (ns[k]'hlt)) := List.getElem?_eq_getElem hlt
        generalize (ns[k]'hlt) = x at hcW hwf hx HG hc
        have hso := sizeI_ok hx.1 hx.2
        obtain ⟨m, rfl⟩ : ∃ m : Nat, x = (m : Int) := ⟨x.toNat, by omega⟩
        rw [Int.toNat_natCast] at hso
        have HS : Hid (∀ W, Calls Try.prog 14 #[.int .i64 m] W fun e w' => e = .returned (.int .i64 (dsz m : Int)) ∧ w' = W) := fun W => by
          have := size_any m hwf W
          rwa [hso.1] at this
        have HK2 := Lib.hid (sum_goes HG.out HK.out)
        have h7 := hso.2
        generalize dsz m = D at HS HK2 h7
        have hk0 : (0 : Int) ≤ (k : Int) := by omega
        have hk1 : (k : Int) < (ns.length : Int) := by omega
        clear hso hx hwf hc
        go_wp2_with (go_at_call 14; refine (HS.out _).mono ?_; rintro e w' ⟨rfl, rfl⟩)
        go_roundw
        case rel => exact ⟨k + 1, s + D, by omega, by go_num, by go_num, by omega, HK2, trivial⟩
        case measure => simp [intOf]; omega
      · have hek : k = ns.length := by omega
        have HS2 : Hid (B.length = 3 + bs.length + ns.length + s) := by have := HK.out; rw [hek, List.take_length] at this; rw [Hid, HL.out, this]
        have hBi : ((B.length : Int) == 3 + (bs.length : Int) + (ns.length : Int) + (s : Int)) = true := beq_iff_eq.2 (by have := HS2.out; omega)
        clear hek
        go_wp2
        go_ret
        exact ⟨rfl, hb2⟩
  · have ht : (packE (ns, bs) != 0) = true := by simpa using he
    rw [packB_none he] at HP
    generalize packE (ns, bs) = E at HP ht
    clear he hi hb
    go_enter Try.func5, Try.ntmps5
    go_wp2_with (first
      | (go_at_call 11; refine (fieldsAwake_any _).mono ?_; rintro e w1 ⟨rfl, hd1⟩; obtain ⟨hc0, hc1, _, _, hlt1⟩ := two_cells hd1; have hb1 := alloc_below hd1)
      | (go_at_call 12; refine (HP.out w1 hb1).mono ?_; rintro e w2 ⟨a2, c2, rfl, hown2, hd2⟩; have hb2 := bt hb1 hd2))
    go_ret
    exact ⟨rfl, hb2⟩
end Go.Proofs.Ytipngfdibcapjaa
