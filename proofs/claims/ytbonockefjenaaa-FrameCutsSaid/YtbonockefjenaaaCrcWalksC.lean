/-
  The contracts of layer 1's functions, third part: sealed bytes.
-/
import Derived.Test.YtbonockefjenaaaCrcWalksB
namespace Go.Proofs.Ytbonockefjenaaa
open Go.RowKit

theorem le_form (n : BitVec 32) (k : Nat) : Value.int .u8 (U n / 2 ^ (8 * k) % 256) = byteV (leAt n k) := by
  unfold byteV leAt U
  rw [UInt8.toNat_ofNat_of_lt' (Nat.mod_lt _ (by decide))]
  rw [Int.natCast_emod, Int.natCast_ediv, Int.natCast_pow]; rfl
theorem le_snoc (bs : List UInt8) (n : BitVec 32) (k : Nat) (h : k < 4) : (bs ++ (le n).take k).map byteV ++ [Value.int .u8 (U n / 2 ^ (8 * k) % 256)] = (bs ++ (le n).take (k + 1)).map byteV := by
  rw [le_form, le_take_succ n k h, ← List.append_assoc, List.map_append (l₂ := [leAt n k])]; rfl
set_option maxHeartbeats 400000 in
theorem sealB_any (a : Option Addr) (cap : Nat) (bs : List UInt8) (w : World) (hb : CellsB w a bs) (hz : a = none → bs.length = 0) (hl : bs.length ≤ 900000) :
    Calls Try.prog 18 #[.slice a bs.length cap] w (RetRow 5 1 (bs.length + 4) ((sealed bs).map byteV) w) := by
  go_enter Try.func18, Try.ntmps18
  go_wp2_with (first
    | (go_at_call 24; refine (sum_any a cap bs _ hb (by omega)).mono ?_; rintro e w1 ⟨rfl, hb1⟩)
    | (go_at_call 22; refine (clone_any a cap bs _ (hb.below hb1) hz (by omega)).mono ?_; rintro e w2 ⟨a2, cap2, rfl, hown, hb2⟩))
  have hbw := hb1.trans (hb2.mono hb1.size)
  generalize hn : sum bs = n
  have HN := Lib.hid hn; clear hn
  go_loopw [4, 10] (fun v i wr => ∃ (k : Nat) (a' : Option Addr) (cap' : Nat), k ≤ 4 ∧ i = .int .i64 k ∧ v = .slice a' (bs.length + k) cap' ∧ wr.ownsRow w.heap.size 5 1 (.slice a' (bs.length + k) cap') (bs.length + k) ((bs ++ (le n).take k).map byteV) ∧ Below w.heap.size w wr) (fun _ i _ => 4 - (intOf i).toNat)
  case atStart => exact ⟨0, a2, cap2, by omega, rfl, rfl, by simpa using own_base hown hb1.size, hbw⟩
  case round =>
    obtain ⟨k, a', cap', hk, rfl, rfl, hown, hbw⟩ := hrel
    by_cases hlt : k < 4
    · have H0 := U0 n
      have HS := Lib.hid (le_snoc bs n k hlt)
      go_wp2_with (at_builtin; refine wpList_append_row rfl (.tmp 13) (.tmp 19) rfl elemB w.heap.size (.slice a' (bs.length + k) cap') (bs.length + k) _ (by rfl) (hown.alloc _) (some ⟨wr.heap.size, 0, none⟩) 1 1 [.int .u8 (U n / 2 ^ (8 * k) % 256)] (by rfl) (by rfl) (RowAt.new wr #[.int .u8 (U n / 2 ^ (8 * k) % 256)] 5) (by simp [Value.oneCell']) (by unfold maxLen; omega) (by omega) (by simp; have := hbw.size; omega) (by simp) ?_; intro a3 c3 w3 hown3 hg3 hat3)
      have hbw3 : Below w.heap.size w w3 := Below.appended (hbw.alloc (by have := hbw.size; omega) _) (hown.alloc _) hg3 (by simp; have := hbw.size; omega) (Nat.le_refl _)
      rw [HS.out] at hown3
      clear hown hg3 hat3
      go_wp2
      go_roundw
      case rel => exact ⟨k + 1, a3, c3, by omega, by go_num, rfl, hown3, hbw3⟩
      case measure => simp [intOf]; omega
    · obtain rfl : k = 4 := by omega
      go_wp2
      go_ret
      exact ⟨a', cap', rfl, by rw [sealed, HN.out]; exact hown, hbw⟩
/-- Whether bytes are opened, and what they are then. -/
def opens (bs : List UInt8) : Bool := decide (4 ≤ bs.length) && decide (sealed (bs.take (bs.length - 4)) = bs)
def opened (bs : List UInt8) : List UInt8 := if opens bs then bs.take (bs.length - 4) else []
theorem opened_length (bs : List UInt8) : (opened bs).length ≤ bs.length := by
  unfold opened
  split
  · rw [List.length_take]; omega
  · simp
/-- Bytes and whether they are: a new row. -/
def RetRowOk (e : TypeId) (size n : Nat) (xs : List Value) (ok : Bool) (w : World) (en : Ending) (w' : World) : Prop :=
  ∃ a cap, en = .returned (.tuple #[.slice a n cap, .bool ok]) ∧ w'.ownsRow w.heap.size e size (.slice a n cap) n xs ∧ Below w.heap.size w w'
theorem take_map_byte (bs : List UInt8) (k : Nat) : (bs.take k).map byteV = (bs.map byteV).take k := List.map_take
set_option maxHeartbeats 400000 in
theorem open_any (a : Option Addr) (cap : Nat) (bs : List UInt8) (w : World) (hb : CellsB w a bs) (hcap : bs.length ≤ cap) (hl : bs.length ≤ 900000) :
    Calls Try.prog 21 #[.slice a bs.length cap] w (RetRowOk 5 1 (opened bs).length ((opened bs).map byteV) (opens bs) w) := by
  by_cases h4 : bs.length < 4
  · have ho : opens bs = false := by simp [opens]; omega
    have HO : Hid (opened bs = [] ∧ opens bs = false) := ⟨by simp [opened, ho], ho⟩
    clear ho
    go_enter Try.func21, Try.ntmps21
    go_wp2
    go_ret2
    rw [HO.out.1, HO.out.2]
    exact ⟨none, 0, rfl, World.ownsRow_nil _ _ _ _, Below.refl _ _⟩
  · have hb4 : CellsB w a (bs.take (bs.length - 4)) := by
      unfold CellsB at hb ⊢; rw [take_map_byte]; exact hb.take _
    have hlen : (bs.take (bs.length - 4)).length = bs.length - 4 := by rw [List.length_take]; omega
    have hn : ((bs.length : Int) - 4).toNat = bs.length - 4 := by omega
    obtain ⟨b, off, rfl, hbl, _⟩ := hb.at (k := 0) (by omega)
    have hs : ∀ w, CellsB w (some ⟨b, off, none⟩) (bs.take (bs.length - 4)) → Calls Try.prog 18 #[.slice (some ⟨b, off, none⟩) (bs.length - 4) cap] w (RetRow 5 1 (sealed (bs.take (bs.length - 4))).length ((sealed (bs.take (bs.length - 4))).map byteV) w) := by
      intro w h
      have := sealB_any (some ⟨b, off, none⟩) cap (bs.take (bs.length - 4)) w h (by simp) (by omega)
      rw [sealed_length]
      rwa [hlen] at this ⊢
    have hcl : ∀ w, CellsB w (some ⟨b, off, none⟩) (bs.take (bs.length - 4)) → Calls Try.prog 22 #[.slice (some ⟨b, off, none⟩) (bs.length - 4) cap] w (RetRow 5 1 (bs.length - 4) ((bs.take (bs.length - 4)).map byteV) w) := by
      intro w h
      have := clone_any (some ⟨b, off, none⟩) cap (bs.take (bs.length - 4)) w h (by simp) (by omega)
      rwa [hlen] at this
    have hsl : (sealed (bs.take (bs.length - 4))).length ≤ 1000000 := by rw [sealed_length]; omega
    have HS := Lib.hid hs
    have HC := Lib.hid hcl
    have HL := Lib.hid hlen
    clear hs hcl hlen
    by_cases hq : sealed (bs.take (bs.length - 4)) = bs
    · have HO : Hid (opened bs = bs.take (bs.length - 4) ∧ opens bs = true) := by
        have : opens bs = true := by simp [opens, hq]; omega
        exact ⟨by simp [opened, this], this⟩
      have HQ := Lib.hid hq; clear hq
      go_enter Try.func21, Try.ntmps21
      go_wp2_with (first
        | (go_at_call 18; refine (HS.out _ hb4).mono ?_; rintro e w1 ⟨a1, cap1, rfl, hown1, hb1⟩)
        | (go_at_call 26; refine (equal_any a1 cap1 _ _ cap bs _ (RowAt.of_own hown1) (hb.below hb1) hsl).mono ?_; rw [decide_eq_true HQ.out]; rintro e w2 ⟨rfl, hb2⟩)
        | (go_at_call 22; refine (HC.out _ (hb4.below (hb1.trans (hb2.mono hb1.size)))).mono ?_; rintro e w3 ⟨a3, cap3, rfl, hown3, hb3⟩))
      go_ret2
      have hbw := hb1.trans (hb2.mono hb1.size)
      rw [HO.out.1, HO.out.2, HL.out]
      exact ⟨a3, cap3, rfl, own_base hown3 hbw.size, hbw.trans (hb3.mono hbw.size)⟩
    · have HO : Hid (opened bs = [] ∧ opens bs = false) := by
        have : opens bs = false := by simp [opens, hq]
        exact ⟨by simp [opened, this], this⟩
      have HQ := Lib.hid hq; clear hq
      clear HC HL
      go_enter Try.func21, Try.ntmps21
      go_wp2_with (first
        | (go_at_call 18; refine (HS.out _ hb4).mono ?_; rintro e w1 ⟨a1, cap1, rfl, hown1, hb1⟩)
        | (go_at_call 26; refine (equal_any a1 cap1 _ _ cap bs _ (RowAt.of_own hown1) (hb.below hb1) hsl).mono ?_; rw [decide_eq_false HQ.out]; rintro e w2 ⟨rfl, hb2⟩))
      go_ret2
      have hbw := hb1.trans (hb2.mono hb1.size)
      rw [HO.out.1, HO.out.2]
      exact ⟨none, 0, rfl, World.ownsRow_nil _ _ _ _, hbw⟩
theorem le_ref (n : BitVec 32) : [Value.int .u8 ((U n).tmod 256 % 256), .int .u8 ((U n).tdiv 256 % 256), .int .u8 ((U n).tdiv 65536 % 256), .int .u8 ((U n).tdiv 16777216 % 256)] = (le n).map byteV := by
  have h0 := U0 n
  rw [Int.tdiv_eq_ediv_of_nonneg h0, Int.tdiv_eq_ediv_of_nonneg h0, Int.tdiv_eq_ediv_of_nonneg h0, Int.tmod_eq_emod_of_nonneg h0, Int.emod_emod]
  have e0 := le_form n 0
  have e1 := le_form n 1
  have e2 := le_form n 2
  have e3 := le_form n 3
  simp only [le, List.map_cons, List.map_nil, ← e0, ← e1, ← e2, ← e3]
  simp
set_option maxHeartbeats 400000 in
theorem refSeal_any (a : Option Addr) (cap : Nat) (bs : List UInt8) (w : World) (hb : CellsB w a bs) (hz : a = none → bs.length = 0) (hl : bs.length ≤ 900000) :
    Calls Try.prog 19 #[.slice a bs.length cap] w (RetRow 5 1 (bs.length + 4) ((sealed bs).map byteV) w) := by
  have HZ := Lib.hid hz; clear hz
  have HB := Lib.hid (le_ref (sum bs))
  have HS : Hid (sealed bs = bs ++ le (sum bs)) := rfl
  have hs1 := fun w (hb : CellsB w a bs) => refSum_any a cap bs w hb (by omega)
  have HM := Lib.hid hs1; clear hs1
  generalize sum bs = n at HB HS HM
  go_enter Try.func19, Try.ntmps19
  go_wp2_with (first
    | (go_at_call 25; refine (HM.out _ hb).mono ?_; rintro e w1 ⟨rfl, rfl⟩)
    | (at_builtin; refine wpList_append_row rfl (.const (.slice none 0 0)) (.tmp 7) rfl elemB w.heap.size (.slice none 0 0) 0 [] (by rfl) (World.ownsRow_nil _ _ _ _) a bs.length cap (bs.map byteV) (by rfl) (by simp) hb (byteV_one _) (by unfold maxLen; omega) (by omega) (Nat.le_refl _) HZ.out ?_; intro a1 c1 w1 hown1 hg1 hat1; simp only [Nat.zero_add, List.nil_append] at hown1; have hb1 : Below w.heap.size w w1 := Below.appended (Below.refl _ _) (World.ownsRow_nil _ w.heap.size 5 1) hg1 (Nat.le_refl _) (Nat.le_refl _); clear hat1 hg1)
    | (at_builtin; refine wpList_append_row rfl (.tmp 9) (.tmp 24) rfl elemB w.heap.size (.slice a1 bs.length c1) bs.length _ (by rfl) (hown1.alloc _) (some ⟨w1.heap.size, 0, none⟩) 4 4 ((le n).map byteV) (by rfl) (by rfl) (by rw [← HB.out]; exact RowAt.new w1 #[_, _, _, _] 5) (byteV_one _) (by unfold maxLen; omega) (by omega) (by simp; have := hb1.size; omega) (by simp) ?_; intro a2 c2 w2 hown2 hg2 hat2))
  have hb2 : Below w.heap.size w w2 := Below.appended (hb1.alloc hb1.size _) (hown1.alloc _) hg2 (by simp; have := hb1.size; omega) (Nat.le_refl _)
  go_wp2
  go_ret
  exact ⟨a2, c2, rfl, by rw [HS.out, List.map_append]; exact hown2, hb2⟩
end Go.Proofs.Ytbonockefjenaaa
