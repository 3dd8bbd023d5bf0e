/-
  Layer 2: Pack.
-/
import Derived.Test.YtipngfdibcapjaaFieldsD
import Derived.Test.YtipngfdibcapjaaBaseC
import Derived.Test.YtipngfdibcapjaaOpen
import Derived.Deep.RegionHeld3
namespace Go.Proofs.Ytipngfdibcapjaa
open Go.RowKit
set_option linter.unusedVariables false
/-- Numbers, and bytes. -/
abbrev Fl := List Int × List UInt8
def numB (n : Int) : List UInt8 := b8 (dsz n.toNat) :: digs n.toNat (dsz n.toNat)
def packE (f : Fl) : Int := if 255 < f.1.length ∨ 4096 < f.2.length then 7 else if f.1.any (fun n => decide (sizeI n < 0)) = true then 1 else 0
def packX (f : Fl) : List UInt8 := (b8 f.1.length :: f.1.flatMap numB) ++ digs f.2.length 2 ++ f.2
def packB (f : Fl) : List UInt8 := if packE f = 0 then packX f else []
theorem packB_none {f : Fl} (h : packE f ≠ 0) : packB f = [] := if_neg h
theorem packB_eq {f : Fl} (h : packE f = 0) : packB f = packX f := if_pos h
theorem packE_zero {f : Fl} (h : packE f = 0) : f.1.length ≤ 255 ∧ f.2.length ≤ 4096 ∧ ∀ n ∈ f.1, 0 ≤ n ∧ n < 72057594037927936 := by
  unfold packE at h
  split at h
  · omega
  · rename_i h1
    split at h
    · omega
    · rename_i h2
      refine ⟨by omega, by omega, fun n hn => ?_⟩
      have h3 : ¬ sizeI n < 0 := fun h => h2 (List.any_eq_true.2 ⟨n, hn, decide_eq_true h⟩)
      by_cases h4 : n < 0 ∨ 72057594037927936 ≤ n
      · rw [sizeI_bad h4] at h3; omega
      · omega
theorem numB_length (n : Int) : (numB n).length = 1 + dsz n.toNat := by unfold numB digs; rw [List.length_cons, digsP_length]; omega
theorem nums_length {ns : List Int} (h : ∀ n ∈ ns, 0 ≤ n ∧ n < 72057594037927936) : (ns.flatMap numB).length ≤ ns.length * 8 := by
  induction ns with
  | nil => simp
  | cons n ns ih =>
    rw [List.flatMap_cons, List.length_append, numB_length, List.length_cons]
    have h1 := h n (by simp)
    have := dsz_le7 (n := n.toNat) (by omega)
    have := ih fun m hm => h m (by simp [hm])
    omega
/-- The two cells of numbers and bytes. -/
def FieldsIs (w : World) (a : Option Addr) (c : Nat) (d : Option Addr) (e : Nat) (f : Fl) : Prop := IntsIn w a c f.1 ∧ BytesIn w d e f.2
theorem nums_take {ns : List Int} {k : Nat} (hk : k < ns.length) : (ns.take (k + 1)).flatMap numB = (ns.take k).flatMap numB ++ numB (ns[k]'hk) := by
  rw [List.take_add_one, List.getElem?_eq_getElem hk, List.flatMap_append]
  simp
theorem row_one (w : World) (v : Int) (d : UInt8) (h : v = (d.toNat : Int)) : RowAt (w.alloc (.cells #[.int .u8 v] 5)) (some ⟨w.heap.size, 0, none⟩) [byteV d] := by
  rw [h]; exact RowAt.new w #[.int .u8 (d.toNat : Int)] 5
set_option maxHeartbeats 3200000 in
theorem pack_any (a : Option Addr) (c : Nat) (ns : List Int) (d : Option Addr) (cd : Nat) (bs : List UInt8) (w : World) (hi : IntsIn w a c ns) (hb : CellsB w d bs) (hz : d = none → bs.length = 0) :
    Calls Try.prog 12 #[.agg #[.slice a ns.length c, .slice d bs.length cd]] w (RetRowE 5 1 (packB (ns, bs)).length ((packB (ns, bs)).map byteV) (packE (ns, bs)) w) := by
  have HZ := Lib.hid hz
  clear hz
  by_cases h1 : (255 : Int) < (ns.length : Int)
  · have he : Hid (packE (ns, bs) = 7 ∧ packB (ns, bs) = []) := by
      have : packE (ns, bs) = 7 := if_pos (.inl (by show 255 < ns.length; omega))
      exact ⟨this, packB_none (by omega)⟩
    clear hi hb
    go_enter Try.func12, Try.ntmps12
    go_wp2
    go_ret2
    rw [he.out.1, he.out.2]
    exact ⟨none, 0, rfl, World.ownsRow_nil _ _ _ _, (Below.refl _ _).alloc (Nat.le_refl _) _⟩
  by_cases h2 : (4096 : Int) < (bs.length : Int)
  · have he : Hid (packE (ns, bs) = 7 ∧ packB (ns, bs) = []) := by
      have : packE (ns, bs) = 7 := if_pos (.inr (by show 4096 < bs.length; omega))
      exact ⟨this, packB_none (by omega)⟩
    clear hi hb
    go_enter Try.func12, Try.ntmps12
    go_wp2
    go_ret2
    rw [he.out.1, he.out.2]
    exact ⟨none, 0, rfl, World.ownsRow_nil _ _ _ _, (Below.refl _ _).alloc (Nat.le_refl _) _⟩
  have HC : Hid (∀ W, CellsI W a ns → Calls Try.prog 22 #[.slice a ns.length c, .func (.func 21) #[] #[]] W fun e w' => e = .returned (.bool (ns.any fun n => decide (sizeI n < 0))) ∧ w' = W) := fun W h => contains_any a c ns W ⟨h, hi.cap, hi.none_, hi.wf⟩ (by omega)
  by_cases h3 : (ns.any fun n => decide (sizeI n < 0)) = true
  · have he : Hid (packE (ns, bs) = 1 ∧ packB (ns, bs) = []) := by
      have : packE (ns, bs) = 1 := by unfold packE; rw [if_neg (by show ¬ (255 < ns.length ∨ 4096 < bs.length); omega), if_pos h3]
      exact ⟨this, packB_none (by omega)⟩
    rw [h3] at HC
    clear hb h3
    go_enter Try.func12, Try.ntmps12
    go_wp2_with (go_at_call 22; refine (HC.out _ (RowAt.alloc hi.cells _)).mono ?_; rintro e w' ⟨rfl, rfl⟩)
    go_ret2
    rw [he.out.1, he.out.2]
    exact ⟨none, 0, rfl, World.ownsRow_nil _ _ _ _, (Below.refl _ _).alloc (Nat.le_refl _) _⟩
  replace h3 : (ns.any fun n => decide (sizeI n < 0)) = false := by simpa using h3
  have he0 : packE (ns, bs) = 0 := by unfold packE; rw [if_neg (by show ¬ (255 < ns.length ∨ 4096 < bs.length); omega), if_neg (by rw [h3]; decide)]
  have HE := Lib.hid he0
  have HP := Lib.hid (packE_zero he0).2.2
  have HB := Lib.hid (packB_eq he0)
  rw [h3] at HC
  clear h3 he0
  have hcn := hi.cells
  have HWF := Lib.hid hi.wf
  clear hi
  go_enter Try.func12, Try.ntmps12
  go_wp2_with (go_at_call 22; refine (HC.out _ (RowAt.alloc hcn _)).mono ?_; rintro e w' ⟨rfl, rfl⟩)
  obtain ⟨F, hF⟩ : ∃ F, F = w.heap.size := ⟨_, rfl⟩
  obtain ⟨hc0, hc1, _, _, hFl⟩ := two_cells (w := w) (x := .slice a ns.length c) (y := .slice d bs.length cd) (t := 25) (w1 := (w.alloc (.cells #[.slice a ns.length c, .slice d bs.length cd] 25)).alloc (.cells #[.int .u8 (ns.length : Int)] 5)) ((Below.refl _ _).alloc (Nat.le_refl _) _)
  have hbW : Below w.heap.size w ((w.alloc (.cells #[.slice a ns.length c, .slice d bs.length cd] 25)).alloc (.cells #[.int .u8 (ns.length : Int)] 5)) := ((Below.refl _ _).alloc (Nat.le_refl _) _).alloc (by simp) _
  have hsz : ((w.alloc (.cells #[.slice a ns.length c, .slice d bs.length cd] 25)).alloc (.cells #[.int .u8 (ns.length : Int)] 5)).heap.size = w.heap.size + 2 := by simp
  have hbyte : (.int .u8 (ns.length : Int) : Value) = byteV (b8 ns.length) := by unfold byteV; rw [b8_mod]; congr 1; omega
  have hown : ((w.alloc (.cells #[.slice a ns.length c, .slice d bs.length cd] 25)).alloc (.cells #[.int .u8 (ns.length : Int)] 5)).ownsRow (w.heap.size + 1) 5 1 (.slice (some ⟨w.heap.size + 1, 0, none⟩) 1 1) 1 [byteV (b8 ns.length)] := by
    rw [← hbyte]
    exact own_lit1 _ _ 1 (Nat.le_refl _) (by decide) rfl
  have HBY := Lib.hid hbyte
  generalize ((w.alloc (.cells #[.slice a ns.length c, .slice d bs.length cd] 25)).alloc (.cells #[.int .u8 (ns.length : Int)] 5)) = W1 at hc0 hc1 hFl hbW hown hsz
  rw [← hF] at hc0 hc1 hFl hown hsz ⊢
  have HF := Lib.hid hF
  have hFW : F + 1 ≤ W1.heap.size := by omega
  clear hF hbyte hc0 hsz
  go_wp2_with fail
  go_loopw [5, 32] (fun v i wr => ∃ (k : Nat) (X : List UInt8) (aL : Option Addr) (cL : Nat), k ≤ ns.length ∧ i = .int .i64 k ∧ v = .slice aL X.length cL ∧ X.length ≤ 1 + k * 8 ∧ Hid (X = b8 ns.length :: (ns.take k).flatMap numB) ∧ wr.ownsRow (F + 1) 5 1 (.slice aL X.length cL) X.length (X.map byteV) ∧ Below (F + 1) W1 wr) (fun _ i _ => ns.length - (intOf i).toNat)
  case atStart => exact ⟨0, [b8 ns.length], _, 1, by omega, rfl, rfl, by simp, by rw [Hid]; simp, hown, Below.refl _ _⟩
  case round =>
    obtain ⟨k, X, aL, cL, hk, rfl, rfl, hXl, HX, hown, hbw⟩ := hrel
    by_cases hlt : k < ns.length
    · obtain ⟨b, off, rfl, hblt, hc⟩ := hcn.at hlt
      have hwf := HWF.out _ (List.getElem_mem hlt)
      have hx := HP.out _ (List.getElem_mem hlt)
      have HT := Lib.hid (nums_take hlt)
      have hb0 : b < F := by have := HF.out; omega
      have hcW : wr.cell? ⟨b, off + k, none⟩ = some (.int .i64 (ns[k]'hlt)) := by
        rw [(bcell hbw).1 _ _ (by omega), (bcell hbW).1 _ _ hblt]; exact hc
      generalize (ns[k]'hlt) = x at hcW hwf hx HT hc
      have hso := sizeI_ok hx.1 hx.2
      obtain ⟨m, rfl⟩ : ∃ m : Nat, x = (m : Int) := ⟨x.toNat, by omega⟩
      rw [Int.toNat_natCast] at hso
      have HS : Hid (∀ W, Calls Try.prog 14 #[.int .i64 m] W fun e w' => e = .returned (.int .i64 (dsz m : Int)) ∧ w' = W) := fun W => by
        have := size_any m hwf W
        rwa [hso.1] at this
      obtain ⟨D, hD⟩ : ∃ D, D = dsz m := ⟨_, rfl⟩
      have HNB : Hid (numB (m : Int) = b8 D :: digs m D) := by rw [Hid, hD]; rfl
      rw [← hD] at HS hso
      have h7 := hso.2
      have hm56 : m < 72057594037927936 := by omega
      have HM := Lib.hid hm56
      have hk0 : (0 : Int) ≤ (k : Int) := by omega
      have hk1 : (k : Int) < (ns.length : Int) := by omega
      clear hD hso hx hwf hm56 hc
      have HD8 : Hid ((D : Int) = ((b8 D).toNat : Int)) := by rw [Hid, b8_mod]; omega
      obtain ⟨Y, hY⟩ : ∃ Y, Y = X ++ [b8 D] := ⟨_, rfl⟩
      have HYL : Hid (X.length + 1 = Y.length) := by rw [Hid, hY]; simp
      have HYM : Hid (X.map byteV ++ [byteV (b8 D)] = Y.map byteV) := by rw [Hid, hY]; simp
      have HY : Hid (Y ++ digs m D = b8 ns.length :: (ns.take (k + 1)).flatMap numB) := by rw [Hid, hY, HX.out, HT.out, HNB.out]; simp
      clear hY
      go_wp2_with (first
        | (go_at_call 14; refine (HS.out _).mono ?_; rintro e w' ⟨rfl, hw'⟩; obtain rfl : w6 = w' := hw'.symm)
        | (go_at_call 14; refine (HS.out _).mono ?_; rintro e w' ⟨rfl, hw'⟩; obtain rfl : wr = w' := hw'.symm)
        | (at_builtin; refine wpList_append_row rfl (.tmp 36) (.tmp 40) rfl elemB (F + 1) (.slice aL X.length cL) X.length (X.map byteV) (by rfl) (hown.alloc _) (some ⟨_, 0, none⟩) 1 1 [byteV (b8 D)] (by rfl) (by rfl) (row_one _ _ _ HD8.out) (byteV_one [b8 D]) (by unfold maxLen; omega) (by omega) (by have := hbw.size; simp; omega) (by simp) ?_; intro a6 c6 w6 hown6 hg6 hat6; have hb6 : Below (F + 1) W1 w6 := Below.appended (hbw.alloc (by have := hbw.size; omega) _) (hown.alloc _) hg6 (by have := hbw.size; simp; omega) (Nat.le_refl _); rw [HYL.out, HYM.out] at hown6; rw [HYL.out])
        | (go_at_call 23; refine (put_any (F + 1) a6 c6 Y m D w6 hown6 (Nat.le_trans hFW hb6.size) (by omega) (by have := HYL.out; omega) HM.out).mono ?_; rintro e w7 ⟨a7, c7, Z, rfl, hZ, hown7, hd7⟩; replace hZ := Lib.hid hZ))
      go_roundw
      case rel => exact ⟨k + 1, Z, a7, c7, by omega, by go_num, rfl, by rw [hZ.out, List.length_append]; have := HYL.out; unfold digs; rw [digsP_length]; omega, by rw [Hid, hZ.out, HY.out], hown7, hb6.trans hd7⟩
      case measure => simp [intOf]; omega
    · have hek : k = ns.length := by omega
      have HX2 : Hid (X = b8 ns.length :: ns.flatMap numB) := by have := HX.out; rwa [hek, List.take_length] at this
      have hc1r : wr.cell? ⟨F, 1, none⟩ = some (.slice d bs.length cd) := by rw [(bcell hbw).1 _ _ (by omega)]; exact hc1
      have hFr : F + 1 ≤ wr.heap.size := Nat.le_trans hFW hbw.size
      have hbwr : Below w.heap.size w wr := hbW.trans (hbw.mono (by have := HF.out; omega))
      clear hek hc1
      go_wp2_with fail
      go_region_held3 (fun W => W.cell? ⟨F, 1, none⟩ = some (.slice d bs.length cd)) (first | exact hc1r | exact hc8 | exact hc9) (first
        | (go_at_call 23; refine (put_any (F + 1) aL cL X bs.length 2 _ hown.drew hFr (by omega) (by omega) (by omega)).mono ?_; rintro e w8 ⟨a8, c8, Z, rfl, hZ, hown8, hd8⟩; replace hZ := Lib.hid hZ; have hd8' : Below (F + 1) wr w8 := (Below.refl _ _).drew.trans hd8; have hc8 : w8.cell? ⟨F, 1, none⟩ = some (.slice d bs.length cd) := ((bcell hd8').1 _ _ (by omega)).trans hc1r; have hb8 : Below w.heap.size w w8 := hbwr.trans (hd8'.mono (by have := HF.out; omega)))
        | (refine step_append_row rfl (.tmp 51) (.tmp 53) rfl elemB (F + 1) (.slice a8 Z.length c8) Z.length (Z.map byteV) (by rfl) hown8 d bs.length cd (bs.map byteV) (by rfl) (by simp) (hb.below hb8) (byteV_one _) (by have := hZ.out; rw [this, List.length_append]; unfold digs; rw [digsP_length]; unfold maxLen; omega) (by have := hZ.out; rw [this, List.length_append]; unfold digs; rw [digsP_length]; omega) (Nat.le_trans hFr hd8'.size) HZ.out ?_; intro a9 c9 w9 hown9 hg9 hat9; have hd9 : Below (F + 1) wr w9 := Below.appended hd8' hown8 hg9 (Nat.le_trans hFr hd8'.size) (Nat.le_refl _); have hc9 : w9.cell? ⟨F, 1, none⟩ = some (.slice d bs.length cd) := ((bcell hd9).1 _ _ (by omega)).trans hc1r))
      go_wp2_with fail
      go_ret2
      have hp : packX (ns, bs) = Z ++ bs := by rw [hZ.out, HX2.out]; rfl
      have hl9 : Z.length + bs.length = (Z ++ bs).length := by simp
      have hm9 : Z.map byteV ++ bs.map byteV = (Z ++ bs).map byteV := by simp
      rw [hl9, hm9] at hown9
      rw [HE.out, HB.out, hp, hl9]
      exact ⟨a9, c9, rfl, own_base hown9 (by have := HF.out; omega), hbwr.trans (hd9.mono (by have := HF.out; omega))⟩
end Go.Proofs.Ytipngfdibcapjaa
