/-
  Layer 1's laws, second part: each one's text returns true, shown by walking it over the contracts of what it calls.
-/
import Derived.Test.YtpfmncimhdljmaaCrcWalksD
import Derived.Test.YtpfmncimhdljmaaCrcMathC
import Derived.Test.YtpfmncimhdljmaaSlices
import Derived.Test.YtpfmncimhdljmaaRowBytes
namespace Go.Proofs.Ytpfmncimhdljmaa
open Go.RowKit

theorem sealedSum_any (w : World) (a : Option Addr) (cap : Nat) (bs : List UInt8) (hb : CellsB w a (sealed bs)) (hl : bs.length ≤ 900000) :
    Calls Try.prog 14 #[.slice a (bs.length + 4) cap] w fun e w' => e = .returned (.int .u32 558161692) ∧ Below w.heap.size w w' := by
  have h := sum_any a cap (sealed bs) w hb (by rw [sealed_length]; omega)
  rw [sealed_length, sum_sealed] at h
  exact h
set_option maxHeartbeats 800000 in
theorem crcCuts_walk (a : Option Addr) (cap : Nat) (bs : List UInt8) (a2 : Option Addr) (cap2 : Nat) (cs : List UInt8) (w : World) (hb : CellsB w a bs) (hz : a = none → bs.length = 0) (hc : CellsB w a2 cs) (hz2 : a2 = none → cs.length = 0) :
    Calls Try.prog 5 #[.slice a bs.length cap, .slice a2 cs.length cap2] w fun e w' => e = .returned (.bool true) ∧ Below w.heap.size w w' := by
  have HZ := Lib.hid hz
  have HZ2 := Lib.hid hz2
  clear hz hz2
  by_cases h1 : (2000 : Int) < (bs.length : Int)
  · clear hb hc
    go_enter Try.func5, Try.ntmps5
    go_wp2_with (go_at_call 11; refine (awake_any _).mono ?_; rintro e w1 ⟨rfl, hb1⟩)
    go_ret
    exact ⟨rfl, hb1⟩
  · by_cases h2 : (2000 : Int) < (cs.length : Int)
    · clear hb hc
      go_enter Try.func5, Try.ntmps5
      go_wp2_with (go_at_call 11; refine (awake_any _).mono ?_; rintro e w1 ⟨rfl, hb1⟩)
      go_ret
      exact ⟨rfl, hb1⟩
    · go_enter Try.func5, Try.ntmps5
      go_wp2_with (go_at_call 11; refine (awake_any _).mono ?_; rintro e w1 ⟨rfl, hb1⟩)
      refine (sealB_any a cap bs _ (hb.below hb1) HZ.out (by omega)).mono ?_
      rintro e w2 ⟨a3, cap3, rfl, hown, hb2⟩
      have hb3 := bt hb1 hb2
      go_wp2_with fail
      refine (sealedSum_any _ a3 cap3 bs (RowAt.of_own hown) (by omega)).mono ?_
      rintro e w3 ⟨rfl, hb4⟩
      have hb5 := bt hb3 hb4
      go_wp2_with fail
      refine (sealB_any a2 cap2 cs _ (hc.below hb5) HZ2.out (by omega)).mono ?_
      rintro e w4 ⟨a4, cap4, rfl, hown4, hb6⟩
      have hb7 := bt hb5 hb6
      go_wp2_with fail
      refine (sealedSum_any _ a4 cap4 cs (RowAt.of_own hown4) (by omega)).mono ?_
      rintro e w5 ⟨rfl, hb8⟩
      have hb9 := bt hb7 hb8
      go_wp2_with fail
      go_ret
      exact ⟨rfl, hb9⟩
/-- The contracts that CrcGoes' last statement wants, for a number of cut bytes. -/
theorem goes_calls (a : Option Addr) (cap : Nat) (bs : List UInt8) (k : Nat) (hk : k ≤ bs.length) (hcap : bs.length ≤ cap) (hl : bs.length ≤ 4000) : ∃ S0 S : Int,
    (∀ W, CellsB W a bs → Calls Try.prog 14 #[.slice a k cap] W fun e w' => e = .returned (.int .u32 S0) ∧ Below W.heap.size W w') ∧
    (∀ W, CellsB W a bs → Calls Try.prog 16 #[.int .u32 S0, .slice (cutA a cap k) (bs.length - k) (cap - k)] W fun e w' => e = .returned (.int .u32 S) ∧ Below W.heap.size W w') ∧
    (∀ W, CellsB W a bs → Calls Try.prog 14 #[.slice a bs.length cap] W fun e w' => e = .returned (.int .u32 S) ∧ Below W.heap.size W w') ∧
    (∀ W, Calls Try.prog 16 #[.int .u32 S, .slice none 0 0] W fun e w' => e = .returned (.int .u32 S) ∧ Below W.heap.size W w') := by
  refine ⟨U (sum (bs.take k)), U (sum bs), fun W h => ?_, fun W h => ?_, fun W h => sum_any a cap bs W h (by omega), fun W => ?_⟩
  · have := sum_any a cap (bs.take k) W (h.take k) (by rw [List.length_take]; omega)
    rwa [List.length_take, Nat.min_eq_left hk] at this
  · have := more_any (sum (bs.take k)) (cutA a cap k) (cap - k) (bs.drop k) W (h.cut cap k hcap) (by rw [List.length_drop]; omega)
    rwa [List.length_drop, more_append] at this
  · have := more_any (sum bs) none 0 [] W .nil (by simp)
    rwa [more_nil] at this
set_option maxHeartbeats 1600000 in
theorem crcGoes_walk (a : Option Addr) (cap : Nat) (bs : List UInt8) (n : Int) (w : World) (hb : CellsB w a bs) (hcap : bs.length ≤ cap) (hz : a = none → bs.length = 0) :
    Calls Try.prog 9 #[.slice a bs.length cap, .int .i64 n] w fun e w' => e = .returned (.bool true) ∧ Below w.heap.size w w' := by
  have HZ := Lib.hid hz
  clear hz
  by_cases h1 : (4000 : Int) < (bs.length : Int)
  · clear hb
    go_enter Try.func9, Try.ntmps9
    go_wp2_with (go_at_call 11; refine (awake_any _).mono ?_; rintro e w1 ⟨rfl, hb1⟩)
    go_ret
    exact ⟨rfl, hb1⟩
  · by_cases h2 : n < 0
    · clear hb
      go_enter Try.func9, Try.ntmps9
      go_wp2_with (go_at_call 11; refine (awake_any _).mono ?_; rintro e w1 ⟨rfl, hb1⟩)
      go_ret
      exact ⟨rfl, hb1⟩
    · by_cases h3 : (bs.length : Int) < n
      · clear hb
        go_enter Try.func9, Try.ntmps9
        go_wp2_with (go_at_call 11; refine (awake_any _).mono ?_; rintro e w1 ⟨rfl, hb1⟩)
        go_ret
        exact ⟨rfl, hb1⟩
      · obtain ⟨k, rfl⟩ : ∃ k : Nat, n = k := ⟨n.toNat, by omega⟩
        have hk : k ≤ bs.length := by omega
        have hkc : k ≤ cap := by omega
        obtain ⟨S0, S, hc1, hc2, hc3, hc4⟩ := goes_calls a cap bs k hk hcap (by omega)
        have H1 := Lib.hid hc1
        have H2 := Lib.hid hc2
        have H3 := Lib.hid hc3
        have H4 := Lib.hid hc4
        clear hc1 hc2 hc3 hc4
        have hk0 : (0 : Int) ≤ (k : Int) := by omega
        have hS : (S == S) = true := by simp
        have hO : Hid (opens (sealed bs) = true ∧ opened (sealed bs) = bs) := opens_sealed bs
        have hopen : Hid (∀ W A c, CellsB W A (sealed bs) → bs.length + 4 ≤ c → Calls Try.prog 19 #[.slice A (bs.length + 4) c] W (RetRowOk 5 1 bs.length (bs.map byteV) true W)) := fun W A c hA hc => by
          have := open_any A c (sealed bs) W hA (by rw [sealed_length]; omega) (by rw [sealed_length]; omega)
          rwa [sealed_length, (opens_sealed bs).1, (opens_sealed bs).2] at this
        go_enter Try.func9, Try.ntmps9
        go_wp2_with (first
          | (go_at_call 11; refine (awake_any _).mono ?_; rintro e w1 ⟨rfl, hb1⟩)
          | (go_at_call 18; refine (sealB_any a cap bs _ (hb.below hb1) HZ.out (by omega)).mono ?_; rintro e w2 ⟨a2, cap2, rfl, hown2, hb2⟩; have hb3 := bt hb1 hb2)
          | (go_at_call 19; refine (hopen.out _ a2 cap2 (RowAt.of_own hown2) (own_le hown2)).mono ?_; rintro e w3 ⟨a3, cap3, rfl, hown3, hb4⟩; have hb5 := bt hb3 hb4))
        have hcx : Hid (∀ W, Below w3.heap.size w3 W → (convert 23 9 (.slice a3 bs.length cap3)).run Try.prog W = .ok (.string (strOf bs)) W ∧ (convert 23 9 (.slice a bs.length cap)).run Try.prog W = .ok (.string (strOf bs)) W) := fun W hW =>
          ⟨run_convert_cells cap3 W (CellsB.below (RowAt.of_own hown3) hW) (own_none hown3), run_convert_cells cap W (hb.below (bt hb5 hW)) HZ.out⟩
        have hs1 := fun w => slice_to a bs.length cap k hkc w
        have hs2 := fun w => slice_from a bs.length cap k hk w
        have hc3 : Below w3.heap.size w3 w3.drew := (Below.refl _ _).drew
        go_region_held3 (fun W => (convert 23 9 (.slice a3 bs.length cap3)).run Try.prog W = .ok (.string (strOf bs)) W ∧ (convert 23 9 (.slice a bs.length cap)).run Try.prog W = .ok (.string (strOf bs)) W) (first | exact hcx.out _ hc9 | exact hcx.out _ hc8 | exact hcx.out _ hc7 | exact hcx.out _ hc6 | exact hcx.out _ hc5 | exact hcx.out _ hc4 | exact hcx.out _ hc3) (first | (go_at_call 14; with_reducible (refine ((H3.out _ (by exact hb.below (bt hb5 hc8)))).mono ?_); rintro e w9 ⟨rfl, hd9⟩; have hc9 := bt hc8 hd9) | (go_at_call 16; with_reducible (refine ((H4.out _ )).mono ?_); rintro e w8 ⟨rfl, hd8⟩; have hc8 := bt hc7 hd8) | (go_at_call 14; with_reducible (refine ((H3.out _ (by exact hb.below (bt hb5 hc6)))).mono ?_); rintro e w7 ⟨rfl, hd7⟩; have hc7 := bt hc6 hd7) | (go_at_call 14; with_reducible (refine ((H3.out _ (by exact hb.below (bt hb5 hc5)))).mono ?_); rintro e w6 ⟨rfl, hd6⟩; have hc6 := bt hc5 hd6) | (go_at_call 16; with_reducible (refine ((H2.out _ (by exact hb.below (bt hb5 hc4)))).mono ?_); rintro e w5 ⟨rfl, hd5⟩; have hc5 := bt hc4 hd5) | (go_at_call 14; with_reducible (refine ((H1.out _ (by exact hb.below (bt hb5 hc3)))).mono ?_); rintro e w4 ⟨rfl, hd4⟩; have hc4 := bt hc3 hd4))
        go_wp2
        go_ret
        exact ⟨rfl, bt hb5 hc9⟩
theorem nib_xor (a b : Nat) : nib (a ^^^ b) = nib a ^^^ nib b := by
  unfold nib
  rw [← steps_xor, BitVec.ofNat_xor]
theorem nib_inj {a b : Nat} (ha : a < 16) (hb : b < 16) (h : nib a = nib b) : a = b := by
  have h1 := congrArg BitVec.toNat (steps_inj (n := 4) h)
  rw [BitVec.toNat_ofNat, BitVec.toNat_ofNat, Nat.mod_eq_of_lt (by omega), Nat.mod_eq_of_lt (by omega)] at h1
  exact h1
theorem nibV_at {m : Nat} (hm : m < 16) : nibV[m]'(by rw [nibV_size]; exact hm) = .int .u32 (U (nib m)) := by
  have hc := nibV_get m hm
  rw [Array.getElem?_eq_getElem (by rw [nibV_size]; exact hm)] at hc
  exact Option.some.inj hc
theorem i64_xor_small {a b : Nat} (ha : a < 16) (hb : b < 16) : bits .xor .i64 (a : Int) (b : Int) = ((a ^^^ b : Nat) : Int) ∧ a ^^^ b < 16 :=
  ⟨bits_xor_i64 ha hb, Nat.xor_lt_two_pow (n := 4) ha hb⟩
where bits_xor_i64 {a b : Nat} (ha : a < 16) (hb : b < 16) : bits .xor .i64 (a : Int) (b : Int) = ((a ^^^ b : Nat) : Int) := by
        have h : ∀ a : Fin 16, ∀ b : Fin 16, bits .xor .i64 (a.val : Int) (b.val : Int) = ((a.val ^^^ b.val : Nat) : Int) := by decide +kernel
        exact h ⟨a, ha⟩ ⟨b, hb⟩
/-- What CrcNibbles' last statement reads. -/
theorem nibbles_facts {a b : Nat} (ha : a < 16) (hb : b < 16) : ∃ (c : Nat) (hc : c < 16) (A B C : Int), bits .xor .i64 (a : Int) (b : Int) = (c : Int) ∧ nibV[a]'(by rw [nibV_size]; exact ha) = .int .u32 A ∧ nibV[b]'(by rw [nibV_size]; exact hb) = .int .u32 B ∧
    nibV[c]'(by rw [nibV_size]; exact hc) = .int .u32 C ∧ bits .xor .u32 A B = C ∧ (a ≠ b → (A != B) = true) :=
  ⟨a ^^^ b, (i64_xor_small ha hb).2, _, _, _, (i64_xor_small ha hb).1, nibV_at ha, nibV_at hb, nibV_at (i64_xor_small ha hb).2, by rw [bits_xor_U, nib_xor], fun h => by
    have : U (nib a) ≠ U (nib b) := fun e => h (nib_inj ha hb (U_inj e))
    simpa using this⟩
theorem nibV_0 : nibV[0]'(by rw [nibV_size]; omega) = .int .u32 0 := by rw [nibV_at (by omega)]; rfl
set_option maxHeartbeats 1600000 in
theorem crcNibbles_walk (x y : Int) (w : World) :
    Calls Try.prog 7 #[.int .i64 x, .int .i64 y] w fun e w' => e = .returned (.bool true) ∧ Below w.heap.size w w' := by
  by_cases hx : 0 ≤ x ∧ x ≤ 15 ∧ 0 ≤ y ∧ y ≤ 15
  · obtain ⟨hx0, hx1, hy0, hy1⟩ := hx
    obtain ⟨a, rfl⟩ : ∃ a : Nat, x = a := ⟨x.toNat, by omega⟩
    obtain ⟨b, rfl⟩ : ∃ b : Nat, y = b := ⟨y.toNat, by omega⟩
    have ha : a < 16 := by omega
    have hb : b < 16 := by omega
    obtain ⟨c, hc, A, B, C, e1, e2, e3, e4, e5, e6⟩ := nibbles_facts ha hb
    have e0 := nibV_0
    have H6 := Lib.hid e6
    clear e6
    have hc0 : (0 : Int) ≤ (c : Int) := by omega
    have hc1 : (c : Int) < 16 := by omega
    have ha1 : (a : Int) < 16 := by omega
    have hb1 : (b : Int) < 16 := by omega
    have hCC : (C == C) = true := by simp
    have hst := storeNib
    by_cases hab : a = b
    · subst hab
      have hq : ((a : Int) == (a : Int)) = true := by simp
      obtain rfl : A = B := by rw [e2] at e3; cases e3; rfl
      clear e3
      go_enter Try.func7, Try.ntmps7
      go_wp2_with (first
        | (go_at_call 11; refine (awake_any _).mono ?_; rintro e w1 ⟨rfl, hb1⟩)
        | (go_at_call 12; refine (nibbles_any _).mono ?_; rintro e w2 ⟨rfl, hb2⟩))
      go_quiet (fail)
      go_wp2
      go_ret
      exact ⟨rfl, below_drewN ((bt hb1 hb2).alloc (bt hb1 hb2).size _) _⟩
    · have hq : ((a : Int) == (b : Int)) = false := by simp; omega
      have h6 := H6.out hab
      go_enter Try.func7, Try.ntmps7
      go_wp2_with (first
        | (go_at_call 11; refine (awake_any _).mono ?_; rintro e w1 ⟨rfl, hb1⟩)
        | (go_at_call 12; refine (nibbles_any _).mono ?_; rintro e w2 ⟨rfl, hb2⟩))
      go_quiet (fail)
      go_wp2
      go_ret
      exact ⟨rfl, below_drewN ((bt hb1 hb2).alloc (bt hb1 hb2).size _) _⟩
  · by_cases h1 : x < 0
    · go_enter Try.func7, Try.ntmps7
      go_wp2_with (go_at_call 11; refine (awake_any _).mono ?_; rintro e w1 ⟨rfl, hb1⟩)
      go_ret
      exact ⟨rfl, hb1⟩
    · by_cases h2 : 15 < x
      · go_enter Try.func7, Try.ntmps7
        go_wp2_with (go_at_call 11; refine (awake_any _).mono ?_; rintro e w1 ⟨rfl, hb1⟩)
        go_ret
        exact ⟨rfl, hb1⟩
      · by_cases h3 : y < 0
        · go_enter Try.func7, Try.ntmps7
          go_wp2_with (go_at_call 11; refine (awake_any _).mono ?_; rintro e w1 ⟨rfl, hb1⟩)
          go_ret
          exact ⟨rfl, hb1⟩
        · have h4 : 15 < y := by omega
          clear hx
          go_enter Try.func7, Try.ntmps7
          go_wp2_with (go_at_call 11; refine (awake_any _).mono ?_; rintro e w1 ⟨rfl, hb1⟩)
          go_ret
          exact ⟨rfl, hb1⟩
theorem byte_cell {bs : List UInt8} {k : Nat} (hk : k < bs.length) : (bs.map byteV)[k]? = some (.int .u8 ((bs.getD k 0).toNat : Int)) := by
  rw [List.getElem?_map, List.getElem?_eq_getElem hk, List.getD_eq_getElem?_getD, List.getElem?_eq_getElem hk]
  rfl
theorem xor_ne {x y : UInt8} (h : y ≠ 0) : x ^^^ y ≠ x := fun e => h (by
  have := congrArg (fun z => x ^^^ z) e
  simpa [← UInt8.xor_assoc] using this)
theorem U_ne {x y : BitVec 32} (h : x ≠ y) : (U x != U y) = true := by
  have : U x ≠ U y := fun e => h (U_inj e)
  simpa using this
/-- What CrcZeros asks, as sums. -/
theorem zeros_calls (a : Option Addr) (cap : Nat) (bs : List UInt8) (k : Nat) (hk : k < bs.length) (x : UInt8) (hx : x ≠ 0) (hl : bs.length ≤ 2000) : ∃ S T X Z : Int, (T != S) = true ∧ (X != Z) = true ∧
    (∀ W, CellsB W a bs → Calls Try.prog 14 #[.slice a bs.length cap] W fun e w' => e = .returned (.int .u32 S) ∧ Below W.heap.size W w') ∧
    (∀ W g c, CellsB W g (bs.set k (bs.getD k 0 ^^^ x)) → Calls Try.prog 14 #[.slice g bs.length c] W fun e w' => e = .returned (.int .u32 T) ∧ Below W.heap.size W w') ∧
    (∀ W, Calls Try.prog 16 #[.int .u32 S, .slice (some ⟨W.heap.size, 0, none⟩) 1 1] (W.alloc (.cells #[.int .u8 (x.toNat : Int)] 5)) fun e w' => e = .returned (.int .u32 X) ∧ Below W.heap.size W w') ∧
    (∀ W, Calls Try.prog 16 #[.int .u32 S, .slice (some ⟨W.heap.size, 0, none⟩) 1 1] (W.alloc (.cells #[.int .u8 0] 5)) fun e w' => e = .returned (.int .u32 Z) ∧ Below W.heap.size W w') := by
  refine ⟨U (sum bs), U (sum (bs.set k (bs.getD k 0 ^^^ x))), U (more (sum bs) [x]), U (more (sum bs) [0]), U_ne fun h => xor_ne hx (sum_set hk h), U_ne fun h => hx (more_one h), fun W h => sum_any a cap bs W h (by omega), fun W g c h => ?_, fun W => ?_, fun W => ?_⟩
  · have := sum_any g c (bs.set k (bs.getD k 0 ^^^ x)) W h (by rw [List.length_set]; omega)
    rwa [List.length_set] at this
  · refine (more_any (sum bs) (some ⟨W.heap.size, 0, none⟩) 1 [x] _ (RowAt.new W _ _) (by simp)).mono ?_
    rintro e w' ⟨rfl, hb⟩
    exact ⟨rfl, ((Below.refl _ _).alloc (Nat.le_refl _) _).trans (hb.mono (by simp))⟩
  · refine (more_any (sum bs) (some ⟨W.heap.size, 0, none⟩) 1 [0] _ (RowAt.new W _ _) (by simp)).mono ?_
    rintro e w' ⟨rfl, hb⟩
    exact ⟨rfl, ((Below.refl _ _).alloc (Nat.le_refl _) _).trans (hb.mono (by simp))⟩
set_option maxHeartbeats 1600000 in
theorem crcZeros_walk (a : Option Addr) (cap : Nat) (bs : List UInt8) (n : Int) (x : UInt8) (w : World) (hb : CellsB w a bs) (hz : a = none → bs.length = 0) :
    Calls Try.prog 6 #[.slice a bs.length cap, .int .i64 n, .int .u8 (x.toNat : Int)] w fun e w' => e = .returned (.bool true) ∧ Below w.heap.size w w' := by
  have HZ := Lib.hid hz
  clear hz
  by_cases h1 : (2000 : Int) < (bs.length : Int)
  · clear hb
    go_enter Try.func6, Try.ntmps6
    go_wp2_with (go_at_call 11; refine (awake_any _).mono ?_; rintro e w1 ⟨rfl, hb1⟩)
    go_ret
    exact ⟨rfl, hb1⟩
  · by_cases h2 : n < 0
    · clear hb
      go_enter Try.func6, Try.ntmps6
      go_wp2_with (go_at_call 11; refine (awake_any _).mono ?_; rintro e w1 ⟨rfl, hb1⟩)
      go_ret
      exact ⟨rfl, hb1⟩
    · by_cases h3 : (bs.length : Int) ≤ n
      · clear hb
        go_enter Try.func6, Try.ntmps6
        go_wp2_with (go_at_call 11; refine (awake_any _).mono ?_; rintro e w1 ⟨rfl, hb1⟩)
        go_ret
        exact ⟨rfl, hb1⟩
      · by_cases h4 : x = 0
        · subst h4
          clear hb
          go_enter Try.func6, Try.ntmps6
          go_wp2_with (go_at_call 11; refine (awake_any _).mono ?_; rintro e w1 ⟨rfl, hb1⟩)
          go_ret
          exact ⟨rfl, hb1⟩
        · obtain ⟨k, rfl⟩ : ∃ k : Nat, n = k := ⟨n.toNat, by omega⟩
          have hk : k < bs.length := by omega
          obtain ⟨S, T, X, Z, hT, hX, hc1, hc2, hc3, hc4⟩ := zeros_calls a cap bs k hk x h4 (by omega)
          have H1 := Lib.hid hc1
          have H2 := Lib.hid hc2
          have H3 := Lib.hid hc3
          have H4 := Lib.hid hc4
          have hxor := u8_xor_bytes (bs.getD k 0) x
          have HM := Lib.hid (map_set_byte bs k (bs.getD k 0 ^^^ x))
          have hx0 : ((x.toNat : Int) == 0) = false := by
            have : x.toNat ≠ 0 := fun e => h4 (UInt8.toNat_inj.1 e)
            simpa using this
          clear hc1 hc2 hc3 hc4 h4
          obtain ⟨b, off, rfl, _, hcell⟩ := hb.at hk
          have HC : Hid ((bs.map byteV)[k]? = some (.int .u8 ((bs.getD k 0).toNat : Int))) := byte_cell hk
          clear hcell
          generalize (bs.getD k 0 ^^^ x).toNat = V at hxor HM
          generalize (bs.getD k 0).toNat = B at hxor HC
          generalize x.toNat = X0 at hxor hx0 H3
          have HB := Lib.hid hxor
          clear hxor
          go_enter Try.func6, Try.ntmps6
          go_wp2_with (first
            | (go_at_call 11; refine (awake_any _).mono ?_; rintro e w1 ⟨rfl, hb1⟩)
            | (at_builtin; refine wpList_append_row rfl (.const (.slice none 0 0)) (.tmp 33) rfl elemB w.heap.size (.slice none 0 0) 0 [] (by rfl) (World.ownsRow_nil _ _ _ _) (some ⟨b, off, none⟩) bs.length cap (bs.map byteV) (by rfl) (by simp) (hb.below hb1) (byteV_one _) (by unfold maxLen; omega) (by omega) (by have := hb1.size; omega) HZ.out ?_; intro a2 c2 w2 hown2 hg2 hat2; simp only [Nat.zero_add, List.nil_append] at hown2; have hb2 : Below w.heap.size w w2 := Below.appended hb1 (World.ownsRow_nil _ w.heap.size 5 1) hg2 hb1.size (Nat.le_refl _); obtain ⟨g, cg, hv, hg1, hg3⟩ := hown2.form (by omega); cases hv; have hcg := (hown2.cellAt k (by omega)).trans HC.out; have hfg := hown2.frozenAt k; have hxor := HB.out; clear hat2 hg2))
          have hb3 : Below w.heap.size w (w2.setCell ⟨g, k, none⟩ (.int .u8 (V : Int))) := hb2.setCell (p := ⟨g, k, none⟩) hg1 _
          have hown3 := (hown2.stored k (.int .u8 (V : Int))).1
          rw [HM.out] at hown3
          generalize w2.setCell ⟨g, k, none⟩ (.int .u8 (V : Int)) = w3 at hb3 hown3
          clear hcg hfg hxor hown2
          refine (H1.out _ (hb.below hb3)).mono ?_
          rintro e w4 ⟨rfl, hd4⟩
          have hb4 := bt hb3 hd4
          have hown4 := own_below hown3 hd4
          go_wp2_with fail
          refine (H2.out _ _ _ (RowAt.of_own hown4)).mono ?_
          rintro e w5 ⟨rfl, hd5⟩
          have hb5 := bt hb4 hd5
          go_wp2_with fail
          refine (H3.out _).mono ?_
          rintro e w6 ⟨rfl, hd6⟩
          have hb6 := bt hb5 hd6
          go_wp2_with fail
          refine (H4.out _).mono ?_
          rintro e w7 ⟨rfl, hd7⟩
          have hb7 := bt hb6 hd7
          go_wp2_with fail
          go_ret
          exact ⟨rfl, hb7⟩
end Go.Proofs.Ytpfmncimhdljmaa
