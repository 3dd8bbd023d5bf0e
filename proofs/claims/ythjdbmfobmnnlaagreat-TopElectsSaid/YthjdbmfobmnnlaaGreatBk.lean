/-
  Bk: several texts in one.
-/
import Derived.Test.YthjdbmfobmnnlaaGreatBa
import Derived.Test.YthjdbmfobmnnlaaGreatBitsLen
import Derived.Test.YthjdbmfobmnnlaaGreatBj
import Derived.Lib.SmallJoins
import Derived.ProofKit
import Derived.Deep.RegionHeld3
/-
  Layer 2: how many bytes a number needs: the plain law, and the walks of both texts.
-/
namespace Go.Proofs.YthjdbmfobmnnlaaGreat
open Go.RowKit
/-- How many bytes a number needs. -/
def dsz (n : Nat) : Nat := (Lib.bitLen n + 7) / 8
theorem dsz_zero : dsz 0 = 0 := by decide
theorem dsz_small {n : Nat} (h0 : 0 < n) (h : n < 256) : dsz n = 1 := by
  have := (by decide +kernel : ∀ k : Fin 256, 0 < k.val → dsz k.val = 1) ⟨n, h⟩ h0
  exact this
theorem dsz_step {n : Nat} (h0 : 0 < n) (h : n < 18446744073709551616) : dsz n = dsz (n / 256) + 1 := by
  by_cases h1 : n < 256
  · rw [dsz_small h0 h1, show n / 256 = 0 by omega, dsz_zero]
  · unfold dsz
    rw [Lib.bitLen_shift8 n (by omega) h]
    omega
theorem dsz_lt : ∀ (k n : Nat), n < 256 ^ k → n < 18446744073709551616 → dsz n ≤ k
  | 0, n, h, _ => by have : n = 0 := by simpa using h
                     rw [this, dsz_zero]; exact Nat.le_refl _
  | k + 1, n, h, hn => by
    rcases Nat.eq_zero_or_pos n with h0 | h0
    · rw [h0, dsz_zero]; omega
    · rw [dsz_step h0 hn]
      have : n / 256 < 256 ^ k := by rw [Nat.pow_succ] at h; omega
      have := dsz_lt k (n / 256) this (by omega)
      omega
theorem dsz_pow : ∀ (k n : Nat), dsz n = k → n < 18446744073709551616 → n < 256 ^ k ∧ (0 < k → 256 ^ (k - 1) ≤ n)
  | 0, n, h, hn => by
    rcases Nat.eq_zero_or_pos n with h0 | h0
    · subst h0; exact ⟨by decide, fun h => by omega⟩
    · rw [dsz_step h0 hn] at h; omega
  | k + 1, n, h, hn => by
    rcases Nat.eq_zero_or_pos n with h0 | h0
    · rw [h0, dsz_zero] at h; omega
    · rw [dsz_step h0 hn] at h
      obtain ⟨h1, h2⟩ := dsz_pow k (n / 256) (by omega) (by omega)
      refine ⟨by rw [Nat.pow_succ]; omega, fun _ => ?_⟩
      rcases Nat.eq_zero_or_pos k with hk | hk
      · subst hk; simp; omega
      · have h3 := h2 hk
        rw [show k + 1 - 1 = (k - 1) + 1 by omega, Nat.pow_succ]; omega
theorem dsz_mono {a b : Nat} (h : a ≤ b) (hb : b < 18446744073709551616) : dsz a ≤ dsz b := dsz_lt _ _ (Nat.lt_of_le_of_lt h (dsz_pow _ b rfl hb).1) (by omega)
theorem dsz_le7 {n : Nat} (h : n < 72057594037927936) : dsz n ≤ 7 := dsz_lt 7 n (by simpa using h) (by omega)
/-- What Size answers. -/
def sizeI (n : Int) : Int := if n < 0 ∨ 72057594037927936 ≤ n then -1 else (dsz n.toNat : Int)
theorem sizeI_bad {n : Int} (h : n < 0 ∨ 72057594037927936 ≤ n) : sizeI n = -1 := if_pos h
theorem sizeI_ok {n : Int} (h0 : 0 ≤ n) (h1 : n < 72057594037927936) : sizeI n = (dsz n.toNat : Int) ∧ (dsz n.toNat) ≤ 7 := ⟨if_neg (by omega), dsz_le7 (by omega)⟩
set_option linter.unusedVariables false
set_option maxHeartbeats 1600000 in
theorem fsize_any (n : Int) (hn : (Lit.int .i64 n).wf = true) (w : World) : Calls Tryz.prog 181 #[.int .i64 n] w fun e w' => e = .returned (.int .i64 (sizeI n)) ∧ w' = w := by
  by_cases h1 : n < 0
  · have HS := Lib.hid (sizeI_bad (.inl h1))
    go_enter Tryz.func181, Tryz.ntmps181
    go_wp2
    go_ret
    rw [HS.out]; exact ⟨rfl, rfl⟩
  · by_cases h2 : 72057594037927936 ≤ n
    · have HS := Lib.hid (sizeI_bad (.inr h2))
      have hq : (n / 72057594037927936 != 0) = true := by
        have : n / 72057594037927936 ≠ 0 := by omega
        simpa using this
      have H2 := Lib.hid h2
      clear h2
      go_enter Tryz.func181, Tryz.ntmps181
      go_wp2
      go_ret
      rw [HS.out]; exact ⟨rfl, rfl⟩
    · have HS := Lib.hid (sizeI_ok (by omega) (show n < 72057594037927936 by omega)).1
      have hq : (n / 72057594037927936 != 0) = false := by
        have : n / 72057594037927936 = 0 := by omega
        simpa using this
      have hL := Lib.bitLen_le n.toNat 56 (by omega) (by omega)
      have HD : Hid (dsz n.toNat = (Lib.bitLen n.toNat + 7) / 8) := rfl
      have HB : Hid (∀ W, Calls Tryz.prog 242 #[.int .u64 n] W fun e w' => e = .returned (.int .i64 (Lib.bitLen n.toNat)) ∧ w' = W) := fun W => bits_Len n W (by omega) (by omega)
      generalize Lib.bitLen n.toNat = L at hL HD HB
      have hn0 : 0 ≤ n := by omega
      have hwn : IntKind.u64.wrap n = n := by simp [IntKind.wrap, IntKind.bits, IntKind.signed]; omega
      have HW := Lib.hid hwn
      clear h2 hn hwn h1
      have hw := HW.out
      go_enter Tryz.func181, Tryz.ntmps181
      go_wp2_with (go_at_call 242; refine (HB.out _).mono ?_; rintro e w' ⟨rfl, rfl⟩)
      go_ret
      rw [HS.out, HD.out]
      exact ⟨ret_int (by omega), rfl⟩
end Go.Proofs.YthjdbmfobmnnlaaGreat

/-
  Layer 2: a number's bytes; put.
-/
namespace Go.Proofs.YthjdbmfobmnnlaaGreat
open Go.RowKit
/-- A number's first i bytes out of so many. -/
def digsP (n size i : Nat) : List UInt8 := (List.range i).map fun j => b8 (n / 256 ^ (size - 1 - j))
def digs (n size : Nat) : List UInt8 := digsP n size size
theorem digsP_length (n size i : Nat) : (digsP n size i).length = i := by simp [digsP]
theorem digsP_succ (n size i : Nat) : digsP n size (i + 1) = digsP n size i ++ [b8 (n / 256 ^ (size - 1 - i))] := by simp [digsP, List.range_succ]
theorem shr_byte (n m : Nat) : ((n : Int) / 2 ^ (8 * m) % 256) = ((b8 (n / 256 ^ m)).toNat : Int) := by
  have h : (2 : Int) ^ (8 * m) = ((256 ^ m : Nat) : Int) := by
    rw [show (256 : Nat) = 2 ^ 8 from rfl, ← Nat.pow_mul]
    exact (Int.natCast_pow 2 _).symm
  rw [h, b8_mod]
  omega
set_option linter.unusedVariables false
set_option maxHeartbeats 1600000 in
theorem fput_any (base : Nat) (a : Option Addr) (cap : Nat) (bs : List UInt8) (n size : Nat) (w : World) (hown : w.ownsRow base 5 1 (.slice a bs.length cap) bs.length (bs.map byteV)) (hb : base ≤ w.heap.size) (hs : size ≤ 8) (hl : bs.length ≤ 1000000) (hn : n < 72057594037927936) :
    Calls Tryz.prog 247 #[.slice a bs.length cap, .int .i64 n, .int .i64 size] w fun e w' => ∃ a' cap' X, e = .returned (.slice a' X.length cap') ∧ X = bs ++ digs n size ∧ w'.ownsRow base 5 1 (.slice a' X.length cap') X.length (X.map byteV) ∧ Below base w w' := by
  have HN := Lib.hid hn
  clear hn
  go_enter Tryz.func247, Tryz.ntmps247
  go_wp2
  go_loopw [0, 9] (fun v i wr => ∃ (k : Nat) (X : List UInt8) (aL : Option Addr) (cL : Nat), k ≤ size ∧ i = .int .i64 k ∧ v = .slice aL X.length cL ∧ X.length ≤ 1000008 ∧ Hid (X.length = bs.length + k) ∧ Hid (X = bs ++ digsP n size k) ∧ wr.ownsRow base 5 1 (.slice aL X.length cL) X.length (X.map byteV) ∧ Below base w wr) (fun _ i _ => size - (intOf i).toNat)
  case atStart => exact ⟨0, bs, a, cap, by omega, rfl, rfl, by omega, rfl, by rw [Hid]; simp [digsP], hown, Below.refl _ _⟩
  case round =>
    obtain ⟨k, X, aL, cL, hk, rfl, rfl, hXb, HXL, HX, hown, hbw⟩ := hrel
    by_cases hlt : k < size
    · obtain ⟨d, hd⟩ : ∃ d, d = b8 (n / 256 ^ (size - 1 - k)) := ⟨_, rfl⟩
      have HE : Hid (((n : Int) / 2 ^ (8 * (size - 1 - k)) % 256) = (d.toNat : Int)) := by rw [Hid, hd]; exact shr_byte _ _
      have HXk := Lib.hid (digsP_succ n size k)
      rw [← hd] at HXk
      obtain ⟨Y, hY⟩ : ∃ Y, Y = X ++ [d] := ⟨_, rfl⟩
      have HYL : Hid (X.length + 1 = Y.length) := by rw [Hid, hY]; simp
      have HYM : Hid (X.map byteV ++ [byteV d] = Y.map byteV) := by rw [Hid, hY]; simp
      have HY : Hid (Y = bs ++ digsP n size (k + 1)) := by rw [Hid, HXk.out, hY, HX.out, List.append_assoc]
      clear hd hY
      have hb9 : base ≤ wr.heap.size := Nat.le_trans hb hbw.size
      go_wp2_with (at_builtin; refine wpList_append_row rfl (.tmp 12) (.tmp 21) rfl elemB base (.slice aL X.length cL) X.length (X.map byteV) (by rfl) (hown.alloc _) (some ⟨wr.heap.size, 0, none⟩) 1 1 [byteV d] (by rfl) (by rfl) (by have h := RowAt.new wr #[.int .u8 ((n : Int) / 2 ^ (8 * (size - 1 - k)) % 256)] 5; rw [HE.out] at h ⊢; exact h) (byteV_one [d]) (by unfold maxLen; omega) (by omega) (by simp; omega) (by simp) ?_; intro a6 c6 w6 hown6 hg6 hat6; rw [HYL.out, HYM.out] at hown6; rw [HYL.out])
      have hb6 : Below base w w6 := Below.appended (hbw.alloc hb9 _) (hown.alloc _) hg6 (by simp; omega) (Nat.le_refl _)
      clear hown hg6 hat6
      go_roundw
      case rel => exact ⟨k + 1, Y, a6, c6, by omega, by go_num, rfl, by have := HYL.out; have := HXL.out; omega, by have := HYL.out; have := HXL.out; rw [Hid]; omega, HY, hown6, hb6⟩
      case measure => simp [intOf]; omega
    · have hk : k = size := by omega
      subst hk
      go_wp2
      go_ret
      exact ⟨aL, cL, X, rfl, HX.out, hown, hbw⟩
end Go.Proofs.YthjdbmfobmnnlaaGreat

/-
  Layer 2: slices of numbers; whether one may not be.
-/
namespace Go.Proofs.YthjdbmfobmnnlaaGreat
open Go.RowKit
set_option linter.unusedVariables false
theorem odd_any (n : Int) (hn : (Lit.int .i64 n).wf = true) (w : World) : Calls Tryz.prog 246 #[.int .i64 n] w fun e w' => e = .returned (.bool (decide (sizeI n < 0))) ∧ w' = w := by
  have HS : Hid (∀ W, Calls Tryz.prog 181 #[.int .i64 n] W fun e w' => e = .returned (.int .i64 (sizeI n)) ∧ w' = W) := fun W => fsize_any n hn W
  generalize sizeI n = s at HS
  go_enter Tryz.func246, Tryz.ntmps246
  go_wp2_with (go_at_call 181; refine (HS.out _).mono ?_; rintro e w' ⟨rfl, rfl⟩)
  go_ret
  exact ⟨rfl, rfl⟩
theorem any_goes {ns : List Int} {k : Nat} {p : Int → Bool} (hk : k < ns.length) (h : (ns.take k).any p = false) (h2 : p (ns[k]'hk) = false) : (ns.take (k + 1)).any p = false := by
  rw [List.take_add_one, List.getElem?_eq_getElem hk, List.any_append, h]
  simpa using h2
theorem any_stops {ns : List Int} {k : Nat} {p : Int → Bool} (hk : k < ns.length) (h2 : p (ns[k]'hk) = true) : ns.any p = true := List.any_eq_true.2 ⟨_, List.getElem_mem hk, h2⟩
set_option maxHeartbeats 1600000 in
theorem index_any (a : Option Addr) (cap : Nat) (ns : List Int) (w : World) (hi : IntsIn w a cap ns) (hl : ns.length ≤ 1000000) :
    Calls Tryz.prog 145 #[.slice a ns.length cap, .func (.func 246) #[] #[]] w fun e w' => (∃ i : Int, e = .returned (.int .i64 i) ∧ -1 ≤ i ∧ decide (0 ≤ i) = ns.any fun n => decide (sizeI n < 0)) ∧ w' = w := by
  have hcells := hi.cells
  have HW := Lib.hid hi.wf
  clear hi
  go_enter Tryz.func145, Tryz.ntmps145
  go_wp2
  go_loopw [8] (fun i wr => ∃ (k : Nat), k ≤ ns.length ∧ i = .int .i64 k ∧ Hid ((ns.take k).any (fun n => decide (sizeI n < 0)) = false) ∧ wr = w) (fun i _ => ns.length - (intOf i).toNat)
  case atStart => exact ⟨0, by omega, rfl, by rw [Hid]; simp, rfl⟩
  case round =>
    obtain ⟨k, hk, rfl, HP, rfl⟩ := hrel
    by_cases hlt : k < ns.length
    · obtain ⟨b, off, rfl, hblt, hc⟩ := hcells.at hlt
      have hwf := HW.out _ (List.getElem_mem hlt)
      have HS : Hid (∀ W, Calls Tryz.prog 246 #[.int .i64 (ns[k]'hlt)] W fun e w' => e = .returned (.bool (decide (sizeI (ns[k]'hlt) < 0))) ∧ w' = W) := fun W => odd_any _ hwf W
      have hk0 : (0 : Int) ≤ (k : Int) := by omega
      have hk1 : (k : Int) < (ns.length : Int) := by omega
      by_cases hp : sizeI (ns[k]'hlt) < 0
      · have HR := Lib.hid (any_stops (p := fun n => decide (sizeI n < 0)) hlt (decide_eq_true hp))
        rw [decide_eq_true hp] at HS
        clear hp hwf
        generalize (ns[k]'hlt) = x at HS hc
        go_wp2_with (go_at_call 246; refine (HS.out _).mono ?_; rintro e w' ⟨rfl, rfl⟩)
        go_ret
        exact ⟨⟨_, rfl, by omega, by rw [HR.out]; simp⟩, rfl⟩
      · have HR := Lib.hid (any_goes (p := fun n => decide (sizeI n < 0)) hlt HP.out (decide_eq_false hp))
        rw [decide_eq_false hp] at HS
        clear hp hwf HP
        generalize (ns[k]'hlt) = x at HS hc
        go_wp2_with (go_at_call 246; refine (HS.out _).mono ?_; rintro e w' ⟨rfl, rfl⟩)
        go_roundw
        case rel => exact ⟨k + 1, by omega, by go_num, HR, trivial⟩
        case measure => simp [intOf]; omega
    · have hk : k = ns.length := by omega
      subst hk
      have HP2 : Hid (ns.any (fun n => decide (sizeI n < 0)) = false) := by have := HP.out; rwa [List.take_length] at this
      go_wp2
      go_ret
      exact ⟨⟨-1, rfl, by omega, by rw [HP2.out]; rfl⟩, rfl⟩
theorem contains_any (a : Option Addr) (cap : Nat) (ns : List Int) (w : World) (hi : IntsIn w a cap ns) (hl : ns.length ≤ 1000000) :
    Calls Tryz.prog 179 #[.slice a ns.length cap, .func (.func 246) #[] #[]] w fun e w' => e = .returned (.bool (ns.any fun n => decide (sizeI n < 0))) ∧ w' = w := by
  have HS := Lib.hid (index_any a cap ns w hi hl)
  clear hi
  go_enter Tryz.func179, Tryz.ntmps179
  go_wp2_with (go_at_call 145; refine HS.out.mono ?_; rintro e w' ⟨⟨i, rfl, hi1, hi2⟩, rfl⟩; replace hi2 := Lib.hid hi2)
  go_ret
  exact ⟨ret_bool hi2.out, rfl⟩
/-! ### The document's bytes of a number -/
theorem digsP_drop (n size i : Nat) (hi : i < size) : (digs n size).drop i = b8 (n / 256 ^ (size - 1 - i)) :: (digs n size).drop (i + 1) := by
  have hl : i < (digs n size).length := by rw [digs, digsP_length]; exact hi
  rw [List.drop_eq_getElem_cons hl]
  congr 1
  simp [digs, digsP]
end Go.Proofs.YthjdbmfobmnnlaaGreat

/-
  Layer 2: a number's bytes as the document has them.
-/
namespace Go.Proofs.YthjdbmfobmnnlaaGreat
open Go.RowKit
set_option linter.unusedVariables false
theorem made_bytes (n : Nat) : (madeCells (Value.int .u8 0).cells (n * 1)).toList = (List.replicate n (0 : UInt8)).map byteV := by
  apply List.ext_getElem?
  intro i
  by_cases hi : i < n
  · rw [List.getElem?_map, List.getElem?_replicate, if_pos hi]
    have : i < (madeCells (Value.int .u8 0).cells (n * 1)).toList.length := by rw [Array.length_toList, size_madeCells]; omega
    rw [List.getElem?_eq_getElem this]
    simp [madeCells, Value.cells, byteV, Nat.mod_one]
  · rw [List.getElem?_eq_none (by rw [Array.length_toList, size_madeCells]; omega), List.getElem?_eq_none (by simp; omega)]
theorem set_drop {X Z : List UInt8} {d : UInt8} {j : Nat} (hj : j < X.length) (h : X.drop (j + 1) = Z) : (X.set j d).drop j = d :: Z := by
  rw [List.drop_eq_getElem_cons (by simpa using hj), List.getElem_set_self, List.drop_set_of_lt (by omega), h]
theorem wpList_make_bytes {ops : Array Oper} {rest : List Oper} {o : Oper} {a : Act} {Q : Exit → Act → World → Prop} (hg : o.guard = none) (l c : Operand) (hop : o.op = Op.makeSlice 48 l c)
    (base : Nat) (w : World) (kl kc : IntKind) (n : Nat) (hl : a.eval l = .int kl n) (hc : a.eval c = .int kc n) (hn : n ≤ 100000000) (hb : base ≤ w.heap.size)
    (hK : ∀ w', w'.ownsRow base 5 1 (.slice (some ⟨w.heap.size, 0, none⟩) n n) n ((List.replicate n (0 : UInt8)).map byteV) → w.grownBy w' none → wpList Tryz.prog ops Q rest (a.put o.dst (.slice (some ⟨w.heap.size, 0, none⟩) n n)) w') :
    wpList Tryz.prog ops Q (o :: rest) a w := by
  obtain ⟨i, hi, hz, hs, hby⟩ := info_parts elemB.info
  refine wpList_make_full w hg l c 48 hop base 5 i (.int .u8 0) 1 elemB.under hi hz hs kl kc n n n hl hc rfl rfl (by rw [hby]; omega) (by unfold maxLen; omega) hb fun w' h1 h2 => ?_
  rw [made_bytes] at h1
  exact hK w' h1 h2
theorem div_next (n size j : Nat) (hj : j < size) : n / 256 ^ (size - (j + 1)) / 256 = n / 256 ^ (size - j) := by
  rw [Nat.div_div_eq_div_mul, ← Nat.pow_succ]
  congr 2
  omega
end Go.Proofs.YthjdbmfobmnnlaaGreat

/-
  A slice of bytes that came in, out of the frame's own words.
-/
namespace Go.Proofs.YthjdbmfobmnnlaaGreat
open Go.RowKit

theorem byte_of_wf {z : Int} (h : (Lit.int .u8 z).wf = true) : ((UInt8.ofNat z.toNat).toNat : Int) = z := by
  have h' : 0 ≤ z ∧ z < 256 := by
    simp [Lit.wf, IntKind.min, IntKind.max, IntKind.signed, IntKind.bits] at h
    omega
  rw [UInt8.toNat_ofNat_of_lt' (by show z.toNat < 256; omega)]
  omega
theorem byte_exists {z : Int} (h : (Lit.int .u8 z).wf = true) : ∃ b : UInt8, z = (b.toNat : Int) := ⟨_, (byte_of_wf h).symm⟩
/-- What the frame says of a slice of bytes that came in: it reads as bytes. -/
theorem row_bytes {w : World} {a : Option Addr} {len cap : Nat} {zs : List Int}
    (h : (a = none ∧ len = 0 ∧ cap = 0 ∧ zs = []) ∨ ∃ x, a = some x ∧ len ≤ cap ∧ cap ≤ maxLen ∧ zs.length = cap ∧ (∀ i, i < zs.length → w.cell? (x.add i) = some (.int .u8 (zs.getD i 0))) ∧ ∀ n ∈ zs, (Lit.int .u8 n).wf = true) :
    ∃ bs : List UInt8, len = bs.length ∧ CellsB w a bs ∧ bs.length ≤ cap ∧ (a = none → bs.length = 0) := by
  rcases h with ⟨rfl, rfl, rfl, rfl⟩ | ⟨x, rfl, hl, hm, hz, hc, hw⟩
  · exact ⟨[], rfl, RowAt.nil, Nat.le_refl _, fun _ => rfl⟩
  · have hlen : ((zs.take len).map fun z => UInt8.ofNat z.toNat).length = len := by rw [List.length_map, List.length_take]; omega
    refine ⟨(zs.take len).map fun z => UInt8.ofNat z.toNat, hlen.symm, ?_, by omega, by simp⟩
    by_cases h0 : len = 0
    · subst h0
      exact .inl (by simp)
    · obtain ⟨b, off, spot⟩ := x
      have h1 := hc 0 (by omega)
      have hspot : spot = none := by simpa [Addr.add] using World.cell?_spot h1
      subst hspot
      have hadd : ∀ j, (⟨b, off, none⟩ : Addr).add j = ⟨b, off + j, none⟩ := fun j => by unfold Addr.add; split <;> simp_all
      refine .inr ⟨b, off, rfl, ?_, fun i u hi => ?_⟩
      · rw [hadd] at h1
        exact block_lt_of_cell h1
      · rw [List.map_map] at hi
        have hi1 : i < (zs.take len).length := by
          rcases Nat.lt_or_ge i (zs.take len).length with h | h
          · exact h
          · rw [List.getElem?_eq_none (by rw [List.length_map]; exact h)] at hi; cases hi
        rw [List.length_take] at hi1
        have hi2 : i < zs.length := by omega
        rw [List.getElem?_map, List.getElem?_take, if_pos (by omega), List.getElem?_eq_getElem hi2] at hi
        have hu : byteV (UInt8.ofNat zs[i].toNat) = u := by simpa using hi
        rw [← hu, ← hadd, hc i hi2]
        unfold byteV
        rw [byte_of_wf (hw _ (List.getElem_mem hi2)), List.getD_eq_getElem?_getD, List.getElem?_eq_getElem hi2]
        rfl
end Go.Proofs.YthjdbmfobmnnlaaGreat

/-
  Arguments out of the frame's own words: slices of bytes, as they are read.
-/
namespace Go.Proofs.YthjdbmfobmnnlaaGreat
open Go.RowKit Go.ChangeShapes Go.WideShapes Go.Deep Go.Joins

/-- A slice of bytes that came in. -/
structure BytesIn (w : World) (a : Option Addr) (cap : Nat) (bs : List UInt8) : Prop where
  cells : CellsB w a bs
  cap : bs.length ≤ cap
  none_ : a = none → bs.length = 0
section
variable {H : Type} {enc : TypeId × Value → H} {w : World}
theorem open_bytes_cells {fuel : Nat} {v : Value} {y : DataW H × List MemPlace} (h : DataW.trod enc Tryz.prog w 0 (fun _ => true) true fuel 48 [v] = some y) :
    ∃ a cap bs, v = .slice a bs.length cap ∧ BytesIn w a cap bs := by
  rcases open_ints Tryz.underlying48 Tryz.underlying5 (by kernel_rfl) h with ⟨hcs, _⟩ | ⟨x, l, c, zs, hcs, _, hl, hm, hz, _, hcell, hwz⟩
  · simp at hcs
    subst hcs
    exact ⟨none, 0, [], rfl, ⟨RowAt.nil, Nat.le_refl _, fun _ => rfl⟩⟩
  · simp at hcs
    subst hcs
    obtain ⟨bs, h1, h2, h3, h4⟩ := row_bytes (w := w) (a := some x) (len := l) (cap := c) (zs := zs) (.inr ⟨x, rfl, hl, hm, by simpa using hz, hcell, hwz⟩)
    subst h1
    exact ⟨some x, c, bs, rfl, ⟨h2, h3, h4⟩⟩
set_option maxRecDepth 100000 in
theorem open_bytes_arg {r : Reach} {b0 : Nat} {v : Value} {d : DataW H} {p : List MemPlace} (hv : Value.okWide Tryz.prog w r b0 48 v) (h : DataW.Trod enc Tryz.prog w 0 (fun _ => true) true 48 v d p) :
    ∃ a cap bs, v = .slice a bs.length cap ∧ BytesIn w a cap bs := by
  obtain ⟨a, l, c, rfl⟩ := okWide_slice Tryz.underlying48 hv
  obtain ⟨fuel, hf⟩ := h
  exact open_bytes_cells (by simpa [Value.cells] using hf)
end
end Go.Proofs.YthjdbmfobmnnlaaGreat

/-
  Layer 2: Pack.
-/
namespace Go.Proofs.YthjdbmfobmnnlaaGreat
open Go.RowKit
set_option linter.unusedVariables false
/-- Numbers, and bytes. -/
abbrev Fl := List Int × List UInt8
def numB (n : Int) : List UInt8 := b8 (dsz n.toNat) :: digs n.toNat (dsz n.toNat)
def packE (f : Fl) : Int := if 255 < f.1.length ∨ 4096 < f.2.length then 7 else if f.1.any (fun n => decide (sizeI n < 0)) = true then 1 else 0
def packX (f : Fl) : List UInt8 := (b8 f.1.length :: f.1.flatMap numB) ++ digs f.2.length 2 ++ f.2
def packB (f : Fl) : List UInt8 := if packE f = 0 then packX f else []
theorem packB_none {f : Fl} (h : packE f ≠ 0) : packB f = [] := if_neg h
theorem packB_eq {f : Fl} (h : packE f = 0) : packB f = packX f := if_pos h
theorem packE_zero {f : Fl} (h : packE f = 0) : f.1.length ≤ 255 ∧ f.2.length ≤ 4096 ∧ ∀ n ∈ f.1, 0 ≤ n ∧ n < 72057594037927936 := by
  unfold packE at h
  split at h
  · omega
  · rename_i h1
    split at h
    · omega
    · rename_i h2
      refine ⟨by omega, by omega, fun n hn => ?_⟩
      have h3 : ¬ sizeI n < 0 := fun h => h2 (List.any_eq_true.2 ⟨n, hn, decide_eq_true h⟩)
      by_cases h4 : n < 0 ∨ 72057594037927936 ≤ n
      · rw [sizeI_bad h4] at h3; omega
      · omega
theorem numB_length (n : Int) : (numB n).length = 1 + dsz n.toNat := by unfold numB digs; rw [List.length_cons, digsP_length]; omega
theorem nums_length {ns : List Int} (h : ∀ n ∈ ns, 0 ≤ n ∧ n < 72057594037927936) : (ns.flatMap numB).length ≤ ns.length * 8 := by
  induction ns with
  | nil => simp
  | cons n ns ih =>
    rw [List.flatMap_cons, List.length_append, numB_length, List.length_cons]
    have h1 := h n (by simp)
    have := dsz_le7 (n := n.toNat) (by omega)
    have := ih fun m hm => h m (by simp [hm])
    omega
/-- The two cells of numbers and bytes. -/
def FieldsIs (w : World) (a : Option Addr) (c : Nat) (d : Option Addr) (e : Nat) (f : Fl) : Prop := IntsIn w a c f.1 ∧ BytesIn w d e f.2
theorem nums_take {ns : List Int} {k : Nat} (hk : k < ns.length) : (ns.take (k + 1)).flatMap numB = (ns.take k).flatMap numB ++ numB (ns[k]'hk) := by
  rw [List.take_add_one, List.getElem?_eq_getElem hk, List.flatMap_append]
  simp
theorem row_one (w : World) (v : Int) (d : UInt8) (h : v = (d.toNat : Int)) : RowAt (w.alloc (.cells #[.int .u8 v] 5)) (some ⟨w.heap.size, 0, none⟩) [byteV d] := by
  rw [h]; exact RowAt.new w #[.int .u8 (d.toNat : Int)] 5
set_option maxRecDepth 100000 in
set_option maxHeartbeats 3200000 in
theorem fpack_any (a : Option Addr) (c : Nat) (ns : List Int) (d : Option Addr) (cd : Nat) (bs : List UInt8) (w : World) (hi : IntsIn w a c ns) (hb : CellsB w d bs) (hz : d = none → bs.length = 0) :
    Calls Tryz.prog 182 #[.agg #[.slice a ns.length c, .slice d bs.length cd]] w (RetRowE 5 1 (packB (ns, bs)).length ((packB (ns, bs)).map byteV) (packE (ns, bs)) w) := by
  have HZ := Lib.hid hz
  clear hz
  by_cases h1 : (255 : Int) < (ns.length : Int)
  · have he : Hid (packE (ns, bs) = 7 ∧ packB (ns, bs) = []) := by
      have : packE (ns, bs) = 7 := if_pos (.inl (by show 255 < ns.length; omega))
      exact ⟨this, packB_none (by omega)⟩
    clear hi hb
    go_enter Tryz.func182, Tryz.ntmps182
    go_wp2
    go_ret2
    rw [he.out.1, he.out.2]
    exact ⟨none, 0, rfl, World.ownsRow_nil _ _ _ _, (Below.refl _ _).alloc (Nat.le_refl _) _⟩
  by_cases h2 : (4096 : Int) < (bs.length : Int)
  · have he : Hid (packE (ns, bs) = 7 ∧ packB (ns, bs) = []) := by
      have : packE (ns, bs) = 7 := if_pos (.inr (by show 4096 < bs.length; omega))
      exact ⟨this, packB_none (by omega)⟩
    clear hi hb
    go_enter Tryz.func182, Tryz.ntmps182
    go_wp2
    go_ret2
    rw [he.out.1, he.out.2]
    exact ⟨none, 0, rfl, World.ownsRow_nil _ _ _ _, (Below.refl _ _).alloc (Nat.le_refl _) _⟩
  have HC : Hid (∀ W, CellsI W a ns → Calls Tryz.prog 179 #[.slice a ns.length c, .func (.func 246) #[] #[]] W fun e w' => e = .returned (.bool (ns.any fun n => decide (sizeI n < 0))) ∧ w' = W) := fun W h => contains_any a c ns W ⟨h, hi.cap, hi.none_, hi.wf⟩ (by omega)
  by_cases h3 : (ns.any fun n => decide (sizeI n < 0)) = true
  · have he : Hid (packE (ns, bs) = 1 ∧ packB (ns, bs) = []) := by
      have : packE (ns, bs) = 1 := by unfold packE; rw [if_neg (by show ¬ (255 < ns.length ∨ 4096 < bs.length); omega), if_pos h3]
      exact ⟨this, packB_none (by omega)⟩
    rw [h3] at HC
    clear hb h3
    go_enter Tryz.func182, Tryz.ntmps182
    go_wp2_with (go_at_call 179; refine (HC.out _ (RowAt.alloc hi.cells _)).mono ?_; rintro e w' ⟨rfl, rfl⟩)
    go_ret2
    rw [he.out.1, he.out.2]
    exact ⟨none, 0, rfl, World.ownsRow_nil _ _ _ _, (Below.refl _ _).alloc (Nat.le_refl _) _⟩
  replace h3 : (ns.any fun n => decide (sizeI n < 0)) = false := by simpa using h3
  have he0 : packE (ns, bs) = 0 := by unfold packE; rw [if_neg (by show ¬ (255 < ns.length ∨ 4096 < bs.length); omega), if_neg (by rw [h3]; decide)]
  have HE := Lib.hid he0
  have HP := Lib.hid (packE_zero he0).2.2
  have HB := Lib.hid (packB_eq he0)
  rw [h3] at HC
  clear h3 he0
  have hcn := hi.cells
  have HWF := Lib.hid hi.wf
  clear hi
  go_enter Tryz.func182, Tryz.ntmps182
  go_wp2_with (go_at_call 179; refine (HC.out _ (RowAt.alloc hcn _)).mono ?_; rintro e w' ⟨rfl, rfl⟩)
  obtain ⟨F, hF⟩ : ∃ F, F = w.heap.size := ⟨_, rfl⟩
  obtain ⟨hc0, hc1, _, _, hFl⟩ := two_cells (w := w) (x := .slice a ns.length c) (y := .slice d bs.length cd) (t := 259) (w1 := (w.alloc (.cells #[.slice a ns.length c, .slice d bs.length cd] 259)).alloc (.cells #[.int .u8 (ns.length : Int)] 5)) ((Below.refl _ _).alloc (Nat.le_refl _) _)
  have hbW : Below w.heap.size w ((w.alloc (.cells #[.slice a ns.length c, .slice d bs.length cd] 259)).alloc (.cells #[.int .u8 (ns.length : Int)] 5)) := ((Below.refl _ _).alloc (Nat.le_refl _) _).alloc (by simp) _
  have hsz : ((w.alloc (.cells #[.slice a ns.length c, .slice d bs.length cd] 259)).alloc (.cells #[.int .u8 (ns.length : Int)] 5)).heap.size = w.heap.size + 2 := by simp
  have hbyte : (.int .u8 (ns.length : Int) : Value) = byteV (b8 ns.length) := by unfold byteV; rw [b8_mod]; congr 1; omega
  have hown : ((w.alloc (.cells #[.slice a ns.length c, .slice d bs.length cd] 259)).alloc (.cells #[.int .u8 (ns.length : Int)] 5)).ownsRow (w.heap.size + 1) 5 1 (.slice (some ⟨w.heap.size + 1, 0, none⟩) 1 1) 1 [byteV (b8 ns.length)] := by
    rw [← hbyte]
    exact own_lit1 _ _ 1 (Nat.le_refl _) (by decide) rfl
  have HBY := Lib.hid hbyte
  generalize ((w.alloc (.cells #[.slice a ns.length c, .slice d bs.length cd] 259)).alloc (.cells #[.int .u8 (ns.length : Int)] 5)) = W1 at hc0 hc1 hFl hbW hown hsz
  rw [← hF] at hc0 hc1 hFl hown hsz ⊢
  have HF := Lib.hid hF
  have hFW : F + 1 ≤ W1.heap.size := by omega
  clear hF hbyte hc0 hsz
  go_wp2_with fail
  go_loopw [5, 32] (fun v i wr => ∃ (k : Nat) (X : List UInt8) (aL : Option Addr) (cL : Nat), k ≤ ns.length ∧ i = .int .i64 k ∧ v = .slice aL X.length cL ∧ X.length ≤ 1 + k * 8 ∧ Hid (X = b8 ns.length :: (ns.take k).flatMap numB) ∧ wr.ownsRow (F + 1) 5 1 (.slice aL X.length cL) X.length (X.map byteV) ∧ Below (F + 1) W1 wr) (fun _ i _ => ns.length - (intOf i).toNat)
  case atStart => exact ⟨0, [b8 ns.length], _, 1, by omega, rfl, rfl, by simp, by rw [Hid]; simp, hown, Below.refl _ _⟩
  case round =>
    obtain ⟨k, X, aL, cL, hk, rfl, rfl, hXl, HX, hown, hbw⟩ := hrel
    by_cases hlt : k < ns.length
    · obtain ⟨b, off, rfl, hblt, hc⟩ := hcn.at hlt
      have hwf := HWF.out _ (List.getElem_mem hlt)
      have hx := HP.out _ (List.getElem_mem hlt)
      have HT := Lib.hid (nums_take hlt)
      have hb0 : b < F := by have := HF.out; omega
      have hcW : wr.cell? ⟨b, off + k, none⟩ = some (.int .i64 (ns[k]'hlt)) := by
        rw [(bcell hbw).1 _ _ (by omega), (bcell hbW).1 _ _ hblt]; exact hc
      generalize (ns[k]'hlt) = x at hcW hwf hx HT hc
      have hso := sizeI_ok hx.1 hx.2
      obtain ⟨m, rfl⟩ : ∃ m : Nat, x = (m : Int) := ⟨x.toNat, by omega⟩
      rw [Int.toNat_natCast] at hso
      have HS : Hid (∀ W, Calls Tryz.prog 181 #[.int .i64 m] W fun e w' => e = .returned (.int .i64 (dsz m : Int)) ∧ w' = W) := fun W => by
        have := fsize_any m hwf W
        rwa [hso.1] at this
      obtain ⟨D, hD⟩ : ∃ D, D = dsz m := ⟨_, rfl⟩
      have HNB : Hid (numB (m : Int) = b8 D :: digs m D) := by rw [Hid, hD]; rfl
      rw [← hD] at HS hso
      have h7 := hso.2
      have hm56 : m < 72057594037927936 := by omega
      have HM := Lib.hid hm56
      have hk0 : (0 : Int) ≤ (k : Int) := by omega
      have hk1 : (k : Int) < (ns.length : Int) := by omega
      clear hD hso hx hwf hm56 hc
      have HD8 : Hid ((D : Int) = ((b8 D).toNat : Int)) := by rw [Hid, b8_mod]; omega
      obtain ⟨Y, hY⟩ : ∃ Y, Y = X ++ [b8 D] := ⟨_, rfl⟩
      have HYL : Hid (X.length + 1 = Y.length) := by rw [Hid, hY]; simp
      have HYM : Hid (X.map byteV ++ [byteV (b8 D)] = Y.map byteV) := by rw [Hid, hY]; simp
      have HY : Hid (Y ++ digs m D = b8 ns.length :: (ns.take (k + 1)).flatMap numB) := by rw [Hid, hY, HX.out, HT.out, HNB.out]; simp
      clear hY
      go_wp2_with (first
        | (go_at_call 181; refine (HS.out _).mono ?_; rintro e w' ⟨rfl, hw'⟩; obtain rfl : w6 = w' := hw'.symm)
        | (go_at_call 181; refine (HS.out _).mono ?_; rintro e w' ⟨rfl, hw'⟩; obtain rfl : wr = w' := hw'.symm)
        | (at_builtin; refine wpList_append_row rfl (.tmp 36) (.tmp 40) rfl elemB (F + 1) (.slice aL X.length cL) X.length (X.map byteV) (by rfl) (hown.alloc _) (some ⟨_, 0, none⟩) 1 1 [byteV (b8 D)] (by rfl) (by rfl) (row_one _ _ _ HD8.out) (byteV_one [b8 D]) (by unfold maxLen; omega) (by omega) (by have := hbw.size; simp; omega) (by simp) ?_; intro a6 c6 w6 hown6 hg6 hat6; have hb6 : Below (F + 1) W1 w6 := Below.appended (hbw.alloc (by have := hbw.size; omega) _) (hown.alloc _) hg6 (by have := hbw.size; simp; omega) (Nat.le_refl _); rw [HYL.out, HYM.out] at hown6; rw [HYL.out])
        | (go_at_call 247; refine (fput_any (F + 1) a6 c6 Y m D w6 hown6 (Nat.le_trans hFW hb6.size) (by omega) (by have := HYL.out; omega) HM.out).mono ?_; rintro e w7 ⟨a7, c7, Z, rfl, hZ, hown7, hd7⟩; replace hZ := Lib.hid hZ))
      go_roundw
      case rel => exact ⟨k + 1, Z, a7, c7, by omega, by go_num, rfl, by rw [hZ.out, List.length_append]; have := HYL.out; unfold digs; rw [digsP_length]; omega, by rw [Hid, hZ.out, HY.out], hown7, hb6.trans hd7⟩
      case measure => simp [intOf]; omega
    · have hek : k = ns.length := by omega
      have HX2 : Hid (X = b8 ns.length :: ns.flatMap numB) := by have := HX.out; rwa [hek, List.take_length] at this
      have hc1r : wr.cell? ⟨F, 1, none⟩ = some (.slice d bs.length cd) := by rw [(bcell hbw).1 _ _ (by omega)]; exact hc1
      have hFr : F + 1 ≤ wr.heap.size := Nat.le_trans hFW hbw.size
      have hbwr : Below w.heap.size w wr := hbW.trans (hbw.mono (by have := HF.out; omega))
      clear hek hc1
      go_wp2_with fail
      go_region_held3 (fun W => W.cell? ⟨F, 1, none⟩ = some (.slice d bs.length cd)) (first | exact hc1r | exact hc8 | exact hc9) (first
        | (go_at_call 247; refine (fput_any (F + 1) aL cL X bs.length 2 _ hown.drew hFr (by omega) (by omega) (by omega)).mono ?_; rintro e w8 ⟨a8, c8, Z, rfl, hZ, hown8, hd8⟩; replace hZ := Lib.hid hZ; have hd8' : Below (F + 1) wr w8 := (Below.refl _ _).drew.trans hd8; have hc8 : w8.cell? ⟨F, 1, none⟩ = some (.slice d bs.length cd) := ((bcell hd8').1 _ _ (by omega)).trans hc1r; have hb8 : Below w.heap.size w w8 := hbwr.trans (hd8'.mono (by have := HF.out; omega)))
        | (refine step_append_row rfl (.tmp 51) (.tmp 53) rfl elemB (F + 1) (.slice a8 Z.length c8) Z.length (Z.map byteV) (by rfl) hown8 d bs.length cd (bs.map byteV) (by rfl) (by simp) (hb.below hb8) (byteV_one _) (by have := hZ.out; rw [this, List.length_append]; unfold digs; rw [digsP_length]; unfold maxLen; omega) (by have := hZ.out; rw [this, List.length_append]; unfold digs; rw [digsP_length]; omega) (Nat.le_trans hFr hd8'.size) HZ.out ?_; intro a9 c9 w9 hown9 hg9 hat9; have hd9 : Below (F + 1) wr w9 := Below.appended hd8' hown8 hg9 (Nat.le_trans hFr hd8'.size) (Nat.le_refl _); have hc9 : w9.cell? ⟨F, 1, none⟩ = some (.slice d bs.length cd) := ((bcell hd9).1 _ _ (by omega)).trans hc1r))
      go_wp2_with fail
      go_ret2
      have hp : packX (ns, bs) = Z ++ bs := by rw [hZ.out, HX2.out]; rfl
      have hl9 : Z.length + bs.length = (Z ++ bs).length := by simp
      have hm9 : Z.map byteV ++ bs.map byteV = (Z ++ bs).map byteV := by simp
      rw [hl9, hm9] at hown9
      rw [HE.out, HB.out, hp, hl9]
      exact ⟨a9, c9, rfl, own_base hown9 (by have := HF.out; omega), hbwr.trans (hd9.mono (by have := HF.out; omega))⟩
end Go.Proofs.YthjdbmfobmnnlaaGreat

/-
  Layer 2: how many bytes fields have.
-/
namespace Go.Proofs.YthjdbmfobmnnlaaGreat
open Go.RowKit
set_option linter.unusedVariables false
/-- How many bytes all numbers need. -/
def sumSz (ns : List Int) : Nat := (ns.map fun n => dsz n.toNat).sum
theorem nums_sum (ns : List Int) : (ns.flatMap numB).length = ns.length + sumSz ns := by
  induction ns with
  | nil => rfl
  | cons n ns ih => rw [List.flatMap_cons, List.length_append, numB_length, ih, sumSz, sumSz, List.map_cons, List.sum_cons, List.length_cons]; omega
theorem packX_length (f : Fl) : (packX f).length = 3 + f.2.length + f.1.length + sumSz f.1 := by
  unfold packX digs
  rw [List.length_append, List.length_append, List.length_cons, nums_sum, digsP_length]; omega
theorem sum_goes {ns : List Int} {k : Nat} {m : Nat} {s : Nat} (hk : ns[k]? = some (m : Int)) (hs : sumSz (ns.take k) = s) : sumSz (ns.take (k + 1)) = s + dsz m := by
  rw [List.take_add_one, hk, ← hs]
  simp [sumSz]
theorem sum_le {ns : List Int} (h : ∀ n ∈ ns, 0 ≤ n ∧ n < 72057594037927936) : sumSz ns ≤ ns.length * 7 := by
  induction ns with
  | nil => simp [sumSz]
  | cons n ns ih =>
    rw [sumSz, List.map_cons, List.sum_cons, List.length_cons]
    have h1 := h n (by simp)
    have := dsz_le7 (n := n.toNat) (by omega)
    have := ih fun m hm => h m (by simp [hm])
    unfold sumSz at this
    omega
end Go.Proofs.YthjdbmfobmnnlaaGreat

/-
  Layer 2: what bytes begin with: a number, so many numbers, numbers and bytes; the plain laws.
-/
namespace Go.Proofs.YthjdbmfobmnnlaaGreat
open Go.RowKit
/-! ### Bytes as a number -/
def valB : List UInt8 → Nat
  | [] => 0
  | c :: t => c.toNat * 256 ^ t.length + valB t
theorem valB_lt : ∀ bs : List UInt8, valB bs < 256 ^ bs.length
  | [] => by simp [valB]
  | c :: t => by
    have h := valB_lt t
    have hc := c.toNat_lt
    rw [valB, List.length_cons, Nat.pow_succ]
    have h1 : c.toNat * 256 ^ t.length ≤ 255 * 256 ^ t.length := Nat.mul_le_mul_right _ (by omega)
    omega
theorem valB_snoc : ∀ (bs : List UInt8) (c : UInt8), valB (bs ++ [c]) = valB bs * 256 + c.toNat
  | [], c => by simp [valB]
  | d :: t, c => by
    rw [List.cons_append, valB, valB, valB_snoc t c, List.length_append, List.length_singleton, Nat.pow_succ, Nat.add_mul, Nat.mul_assoc]
    omega
theorem valB_inj : ∀ {xs ys : List UInt8}, xs.length = ys.length → valB xs = valB ys → xs = ys
  | [], [], _, _ => rfl
  | [], _ :: _, h, _ => by simp at h
  | _ :: _, [], h, _ => by simp at h
  | c :: t, d :: u, h, hv => by
    have hl : t.length = u.length := by simpa using h
    rw [valB, valB, hl] at hv
    have h1 := valB_lt t
    have h2 := valB_lt u
    rw [hl] at h1
    have hp : 0 < 256 ^ u.length := Nat.pow_pos (by decide)
    have hc : c.toNat = d.toNat := by
      have e1 : (c.toNat * 256 ^ u.length + valB t) / 256 ^ u.length = c.toNat := by
        rw [Nat.mul_comm, Nat.mul_add_div hp, Nat.div_eq_of_lt h1]; omega
      have e2 : (d.toNat * 256 ^ u.length + valB u) / 256 ^ u.length = d.toNat := by
        rw [Nat.mul_comm, Nat.mul_add_div hp, Nat.div_eq_of_lt h2]; omega
      rw [← e1, ← e2, hv]
    rw [hc] at hv
    rw [UInt8.toNat_inj.1 hc, valB_inj hl (by omega)]
theorem valB_digsP (n size : Nat) : ∀ i, i ≤ size → valB (digsP n size i) = n / 256 ^ (size - i) % 256 ^ i
  | 0, _ => by simp [digsP, valB, Nat.mod_one]
  | i + 1, h => by
    rw [digsP_succ, valB_snoc, valB_digsP n size i (by omega), b8_mod, show size - 1 - i = size - (i + 1) by omega]
    have e : n / 256 ^ (size - i) = n / 256 ^ (size - (i + 1)) / 256 := by
      rw [Nat.div_div_eq_div_mul, ← Nat.pow_succ, show (size - (i + 1)).succ = size - i by omega]
    rw [e, Nat.pow_succ, Nat.mul_comm (256 ^ i) 256, Nat.mod_mul]
    omega
theorem valB_digs {n size : Nat} (h : n < 256 ^ size) : valB (digs n size) = n := by
  unfold digs
  rw [valB_digsP n size size (Nat.le_refl _), Nat.sub_self, Nat.pow_zero, Nat.div_one, Nat.mod_eq_of_lt h]
theorem digs_length (n size : Nat) : (digs n size).length = size := digsP_length n size size
theorem digs_valB (bs : List UInt8) : digs (valB bs) bs.length = bs := valB_inj (digs_length _ _) (valB_digs (valB_lt bs))
theorem dsz_valB {c : UInt8} {t : List UInt8} (hc : c ≠ 0) (ht : t.length < 8) : dsz (valB (c :: t)) = t.length + 1 := by
  have h1 := valB_lt (c :: t)
  rw [List.length_cons] at h1
  have h0 : 0 < c.toNat := by
    rcases Nat.eq_zero_or_pos c.toNat with h | h
    · exact (hc (UInt8.toNat_inj.1 h)).elim
    · exact h
  have h2 : 256 ^ t.length ≤ valB (c :: t) := by
    rw [valB]
    have := Nat.mul_le_mul_right (256 ^ t.length) h0
    omega
  have h64 : valB (c :: t) < 18446744073709551616 := Nat.lt_of_lt_of_le h1 (by
    have := Nat.pow_le_pow_right (show 0 < 256 by decide) (show t.length + 1 ≤ 8 by omega)
    simpa using this)
  have h3 := dsz_lt _ _ h1 h64
  have h4 := (dsz_pow _ _ rfl h64).1
  rcases Nat.lt_or_ge (dsz (valB (c :: t))) (t.length + 1) with h5 | h5
  · have := Nat.pow_le_pow_right (show 0 < 256 by decide) (show dsz (valB (c :: t)) ≤ t.length by omega)
    omega
  · omega
theorem digs_head {n : Nat} (h0 : 0 < dsz n) (hn : n < 18446744073709551616) : ∃ c t, digs n (dsz n) = c :: t ∧ c ≠ 0 := by
  obtain ⟨h1, h2⟩ := dsz_pow _ n rfl hn
  match hd : digs n (dsz n) with
  | [] => have := digs_length n (dsz n); rw [hd] at this; simp at this; omega
  | c :: t =>
    refine ⟨c, t, rfl, fun hc => ?_⟩
    have hv := valB_digs h1
    have hl := digs_length n (dsz n)
    rw [hd] at hv hl
    rw [valB, hc] at hv
    have := valB_lt t
    rw [List.length_cons] at hl
    have h3 := h2 h0
    rw [show dsz n - 1 = t.length by omega] at h3
    simp at hv
    omega
/-! ### A number -/
/-- What bytes begin with: an error, a number, how many bytes it has. -/
def numP (bs : List UInt8) : Int × Nat × Nat :=
  if bs.length = 0 then (3, 0, 0)
  else if 7 < (bs.getD 0 0).toNat then (2, 0, 0)
  else if 0 < (bs.getD 0 0).toNat ∧ 2 ≤ bs.length ∧ bs.getD 1 0 = 0 then (2, 0, 0)
  else if bs.length < 1 + (bs.getD 0 0).toNat then (3, 0, 0)
  else (0, valB ((bs.drop 1).take (bs.getD 0 0).toNat), 1 + (bs.getD 0 0).toNat)
theorem numP_put {v : Int} (h0 : 0 ≤ v) (h1 : v < 72057594037927936) (rest : List UInt8) : numP (numB v ++ rest) = (0, v.toNat, (numB v).length) := by
  have h7 := dsz_le7 (n := v.toNat) (by omega)
  have hb : (b8 (dsz v.toNat)).toNat = dsz v.toNat := b8_toNat _ (by omega)
  have hp := (dsz_pow _ v.toNat rfl (by omega)).1
  have hl := digs_length v.toNat (dsz v.toNat)
  rw [numB_length]
  unfold numP numB
  simp only [List.cons_append, List.getD_cons_zero, List.length_cons, hb, List.drop_succ_cons, List.drop_zero, List.length_append, hl]
  rw [if_neg (by omega), if_neg (by omega), if_neg ?_, if_neg (by omega), List.take_append_of_le_length (by omega), List.take_of_length_le (by omega), valB_digs hp]
  rintro ⟨ha, _, hc⟩
  obtain ⟨c, t, he, hne⟩ := digs_head ha (by omega)
  rw [he] at hc
  simp at hc
  exact hne hc
theorem numP_short {v : Int} (h0 : 0 ≤ v) (h1 : v < 72057594037927936) {X Y : List UInt8} (h : numB v = X ++ Y) (hY : 0 < Y.length) : numP X = (3, 0, 0) := by
  have h7 := dsz_le7 (n := v.toNat) (by omega)
  have hb : (b8 (dsz v.toNat)).toNat = dsz v.toNat := b8_toNat _ (by omega)
  have hl := congrArg List.length h
  rw [numB_length, List.length_append] at hl
  match X, h, hl with
  | [], _, _ => rfl
  | x :: X, h, hl =>
    unfold numB at h
    rw [List.cons_append] at h
    injection h with h2 h3
    subst h2
    rw [List.length_cons] at hl
    unfold numP
    simp only [List.length_cons, List.getD_cons_zero, hb]
    rw [if_neg (by omega), if_neg (by omega), if_neg ?_, if_pos (by omega)]
    rintro ⟨ha, hb2, hc⟩
    obtain ⟨c, t, he, hne⟩ := digs_head ha (by omega)
    match X, hb2 with
    | y :: X, _ =>
      rw [he, List.cons_append] at h3
      injection h3 with h4 h5
      simp at hc
      rw [h4] at hne
      exact hne hc
theorem numP_back {bs : List UInt8} {v n : Nat} (h : numP bs = (0, v, n)) : ∃ rest, bs = numB (v : Int) ++ rest ∧ v < 72057594037927936 ∧ n = (numB (v : Int)).length := by
  unfold numP at h
  split at h
  · cases h
  · rename_i h1
    split at h
    · cases h
    · rename_i h2
      split at h
      · cases h
      · rename_i h3
        split at h
        · cases h
        · rename_i h4
          match bs, h1, h2, h3, h4, h with
          | [], h1, _, _, _, _ => exact (h1 rfl).elim
          | c :: t, _, h2, h3, h4, h =>
            simp only [List.getD_cons_zero, List.drop_succ_cons, List.drop_zero, List.length_cons, Prod.mk.injEq] at h h2 h3 h4
            obtain ⟨_, hv, hn⟩ := h
            have hlen : (t.take c.toNat).length = c.toNat := by rw [List.length_take]; omega
            have hd : dsz v = c.toNat := by
              match ht : t.take c.toNat with
              | [] => rw [ht] at hlen hv; simp at hlen; rw [← hv, ← hlen]; exact dsz_zero
              | d :: u =>
                rw [ht] at hlen hv
                simp at hlen
                rw [← hv, dsz_valB ?_ (by omega), hlen]
                intro hd0
                apply h3
                refine ⟨by omega, by omega, ?_⟩
                match t, ht with
                | [], ht => simp at ht
                | x :: t, ht =>
                  rw [← hlen, List.take_succ_cons] at ht
                  injection ht with hx _
                  simp [hx, hd0]
            have hlt := valB_lt (t.take c.toNat)
            rw [hv, hlen] at hlt
            have h56 : v < 72057594037927936 := Nat.lt_of_lt_of_le hlt (by
              have := Nat.pow_le_pow_right (show 0 < 256 by decide) (show c.toNat ≤ 7 by omega)
              simpa using this)
            refine ⟨t.drop c.toNat, ?_, h56, by rw [numB_length]; simp [hd, hn]⟩
            unfold numB
            rw [Int.toNat_natCast, hd, ← hv]
            have := digs_valB (t.take c.toNat)
            rw [hlen] at this
            rw [this, List.cons_append, List.take_append_drop]
            congr 1
            exact UInt8.toNat_inj.1 (by rw [b8_toNat _ c.toNat_lt])
theorem numP_zero {bs : List UInt8} (h : (numP bs).1 = 0) : ∃ rest, bs = numB ((numP bs).2.1 : Int) ++ rest ∧ (numP bs).2.1 < 72057594037927936 ∧ (numP bs).2.2 = (numB ((numP bs).2.1 : Int)).length := numP_back (bs := bs) (Prod.ext h rfl)
/-! ### So many numbers -/
def numsA (bs : List UInt8) : Nat → Nat → List Int → Int × List Int × Nat
  | 0, p, acc => (0, acc, p)
  | k + 1, p, acc => if (numP (bs.drop p)).1 = 0 then numsA bs k (p + (numP (bs.drop p)).2.2) (acc ++ [((numP (bs.drop p)).2.1 : Int)]) else ((numP (bs.drop p)).1, [], 0)
theorem numsA_go {bs : List UInt8} {k p : Nat} {acc : List Int} (h : (numP (bs.drop p)).1 = 0) : numsA bs (k + 1) p acc = numsA bs k (p + (numP (bs.drop p)).2.2) (acc ++ [((numP (bs.drop p)).2.1 : Int)]) := if_pos h
theorem numsA_stop {bs : List UInt8} {k p : Nat} {acc : List Int} (h : (numP (bs.drop p)).1 ≠ 0) : numsA bs (k + 1) p acc = ((numP (bs.drop p)).1, [], 0) := if_neg h
abbrev Fair (ns : List Int) : Prop := ∀ n ∈ ns, 0 ≤ n ∧ n < 72057594037927936
theorem numsA_put {bs rest : List UInt8} : ∀ {ns : List Int} {p : Nat} {acc : List Int}, Fair ns → bs.drop p = ns.flatMap numB ++ rest → numsA bs ns.length p acc = (0, acc ++ ns, p + (ns.flatMap numB).length)
  | [], p, acc, _, _ => by simp [numsA]
  | n :: ns, p, acc, hf, h => by
    have hn := hf n (by simp)
    rw [List.flatMap_cons, List.append_assoc] at h
    have hp := numP_put hn.1 hn.2 (ns.flatMap numB ++ rest)
    rw [← h] at hp
    rw [List.length_cons, numsA_go (by rw [hp]), hp]
    have h2 : bs.drop (p + (numB n).length) = ns.flatMap numB ++ rest := by
      rw [← List.drop_drop, h, List.drop_left]
    have := numsA_put (acc := acc ++ [n]) (fun m hm => hf m (by simp [hm])) h2
    have e : ((n.toNat : Nat) : Int) = n := by omega
    simp only [e]
    rw [this, List.append_assoc, List.flatMap_cons, List.length_append]
    simp [Nat.add_assoc]
theorem numsA_short {bs Y : List UInt8} : ∀ {ns : List Int} {p : Nat} {acc : List Int}, Fair ns → ns.flatMap numB = bs.drop p ++ Y → 0 < Y.length → numsA bs ns.length p acc = (3, [], 0)
  | [], p, acc, _, h, hY => by
    simp at h
    rw [h.2] at hY
    simp at hY
  | n :: ns, p, acc, hf, h, hY => by
    have hn := hf n (by simp)
    rw [List.flatMap_cons] at h
    rw [List.length_cons]
    rcases List.append_eq_append_iff.1 h with ⟨Z, h1, h2⟩ | ⟨Z, h1, h2⟩
    · have hp := numP_put hn.1 hn.2 Z
      rw [← h1] at hp
      rw [numsA_go (by rw [hp]), hp]
      exact numsA_short (fun m hm => hf m (by simp [hm])) (by rw [h2, ← List.drop_drop, h1, List.drop_left]) hY
    · by_cases hZ : Z = []
      · subst hZ
        rw [List.append_nil] at h1
        have hp := numP_put hn.1 hn.2 []
        rw [List.append_nil, h1] at hp
        rw [numsA_go (by rw [hp]), hp]
        refine numsA_short (fun m hm => hf m (by simp [hm])) (Y := Y) ?_ hY
        rw [← h1, ← List.drop_drop, ← h1, List.drop_length]
        simpa using h2.symm
      · have hp := numP_short hn.1 hn.2 h1 (List.length_pos_iff.2 hZ)
        rw [numsA_stop (by rw [hp]; decide), hp]
theorem numsA_back {bs : List UInt8} : ∀ {k p : Nat} {acc vs : List Int} {q : Nat}, numsA bs k p acc = (0, vs, q) → ∃ ns rest, ns.length = k ∧ vs = acc ++ ns ∧ Fair ns ∧ bs.drop p = ns.flatMap numB ++ rest ∧ q = p + (ns.flatMap numB).length
  | 0, p, acc, vs, q, h => by
    simp [numsA] at h
    exact ⟨[], bs.drop p, rfl, by simp [h.1], fun n hn => by simp at hn, by simp, by simp [h.2]⟩
  | k + 1, p, acc, vs, q, h => by
    by_cases h0 : (numP (bs.drop p)).1 = 0
    · rw [numsA_go h0] at h
      obtain ⟨rest, h1, h2, h3⟩ := numP_zero h0
      obtain ⟨ns, rest', g1, g2, g3, g4, g5⟩ := numsA_back h
      rw [h3] at g4 g5
      generalize (numP (bs.drop p)).2.1 = v at *
      refine ⟨(v : Int) :: ns, rest', by simp [g1], by simp [g2], ?_, ?_, ?_⟩
      · intro n hn
        rcases List.mem_cons.1 hn with rfl | hn
        · omega
        · exact g3 n hn
      · rw [← List.drop_drop] at g4
        rw [h1, List.drop_left] at g4
        rw [h1, g4, List.flatMap_cons, List.append_assoc]
      · rw [List.flatMap_cons, List.length_append, g5]; omega
    · rw [numsA_stop h0] at h
      injection h with h _
      exact (h0 h).elim
theorem numsA_fall {bs : List UInt8} : ∀ {k p : Nat} {acc : List Int}, (numsA bs k p acc).1 ≠ 0 → (numsA bs k p acc).2 = ([], 0)
  | 0, p, acc, h => (h rfl).elim
  | k + 1, p, acc, h => by
    by_cases h0 : (numP (bs.drop p)).1 = 0
    · rw [numsA_go h0] at h ⊢; exact numsA_fall h
    · rw [numsA_stop h0]
/-! ### Numbers and bytes -/
def szP (bs : List UInt8) (p : Nat) : Nat := (bs.getD p 0).toNat * 256 + (bs.getD (p + 1) 0).toNat
def tailP (bs : List UInt8) (ns : List Int) (p : Nat) : Int × List Int × List UInt8 × Nat :=
  if bs.length < p + 2 then (3, [], [], 0) else if 4096 < szP bs p then (7, [], [], 0) else if bs.length < p + 2 + szP bs p then (3, [], [], 0) else (0, ns, (bs.drop (p + 2)).take (szP bs p), p + 2 + szP bs p)
/-- The first numbers and bytes of some: an error, the numbers, the bytes, how many bytes they have. -/
def cutP (bs : List UInt8) : Int × List Int × List UInt8 × Nat :=
  if bs.length = 0 then (3, [], [], 0)
  else if (numsA bs (bs.getD 0 0).toNat 1 []).1 = 0 then tailP bs (numsA bs (bs.getD 0 0).toNat 1 []).2.1 (numsA bs (bs.getD 0 0).toNat 1 []).2.2
  else ((numsA bs (bs.getD 0 0).toNat 1 []).1, [], [], 0)
def unpackP (bs : List UInt8) : Int × List Int × List UInt8 := if (cutP bs).1 = 0 ∧ (cutP bs).2.2.2 ≠ bs.length then (2, [], []) else ((cutP bs).1, (cutP bs).2.1, (cutP bs).2.2.1)
theorem szP_digs {bs : List UInt8} {p n : Nat} {rest : List UInt8} (hn : n < 65536) (h : bs.drop p = digs n 2 ++ rest) : szP bs p = n ∧ p + 2 ≤ bs.length := by
  have hl := congrArg List.length h
  rw [List.length_append, digs_length, List.length_drop] at hl
  have h0 : bs.getD p 0 = b8 (n / 256) := by
    have := congrArg (fun l => l.getD 0 0) h
    simp [digs, digsP, List.range_succ] at this
    simpa using this
  have h1 : bs.getD (p + 1) 0 = b8 n := by
    have := congrArg (fun l => l.getD 1 0) h
    simp [digs, digsP, List.range_succ] at this
    simpa using this
  unfold szP
  rw [h0, h1, b8_mod, b8_mod]
  omega
theorem digs_szP {bs : List UInt8} {p : Nat} (h : p + 2 ≤ bs.length) : bs.drop p = digs (szP bs p) 2 ++ bs.drop (p + 2) := by
  have e : bs.drop p = [bs.getD p 0, bs.getD (p + 1) 0] ++ bs.drop (p + 2) := by
    rw [List.drop_eq_getElem_cons (by omega), List.drop_eq_getElem_cons (by omega)]
    simp [List.getD_eq_getElem?_getD, List.getElem?_eq_getElem (show p < bs.length by omega), List.getElem?_eq_getElem (show p + 1 < bs.length by omega)]
  rw [e]
  congr 1
  have := digs_valB [bs.getD p 0, bs.getD (p + 1) 0]
  rw [← this]
  simp [valB, szP]
theorem head_eq : ∀ {bs : List UInt8}, ¬ bs.length = 0 → bs = bs.getD 0 0 :: bs.drop 1
  | [], h => (h rfl).elim
  | c :: t, _ => by simp
theorem cutP_put {f : Fl} (h : packE f = 0) (more : List UInt8) : cutP (packX f ++ more) = (0, f.1, f.2, (packX f).length) := by
  obtain ⟨h1, h2, h3⟩ := packE_zero h
  have hlen := packX_length f
  have h0 : (packX f ++ more).getD 0 0 = b8 f.1.length := by simp [packX]
  have hd : (packX f ++ more).drop 1 = f.1.flatMap numB ++ (digs f.2.length 2 ++ (f.2 ++ more)) := by simp [packX]
  have hA := numsA_put (bs := packX f ++ more) (acc := []) h3 hd
  have hb : (b8 f.1.length).toNat = f.1.length := b8_toNat _ (by omega)
  unfold cutP
  rw [h0, hb, hA, if_neg (by rw [List.length_append]; omega), if_pos rfl]
  simp only [List.nil_append]
  have hd2 : (packX f ++ more).drop (1 + (f.1.flatMap numB).length) = digs f.2.length 2 ++ (f.2 ++ more) := by rw [← List.drop_drop, hd, List.drop_left]
  obtain ⟨hs, hl⟩ := szP_digs (by omega) hd2
  have hd3 : (packX f ++ more).drop (1 + (f.1.flatMap numB).length + 2) = f.2 ++ more := by
    rw [← List.drop_drop, hd2]
    exact List.drop_left' (digs_length _ _)
  have hx : (packX f).length = 1 + (f.1.flatMap numB).length + 2 + f.2.length := by
    unfold packX; simp [digs_length]; omega
  unfold tailP
  rw [hs, if_neg (by omega), if_neg (by omega), if_neg (by rw [List.length_append, hx]; omega), hd3, List.take_left, hx]
theorem cutP_back {bs : List UInt8} {ns : List Int} {d : List UInt8} {n : Nat} (h : cutP bs = (0, ns, d, n)) : packE (ns, d) = 0 ∧ n ≤ bs.length ∧ ∃ rest, bs = packX (ns, d) ++ rest ∧ n = (packX (ns, d)).length := by
  unfold cutP at h
  split at h
  · cases h
  · rename_i h0
    split at h
    · rename_i h1
      obtain ⟨ms, rest, g1, g2, g3, g4, g5⟩ := numsA_back (bs := bs) (k := (bs.getD 0 0).toNat) (p := 1) (acc := []) (Prod.ext h1 rfl)
      rw [g2, g5] at h
      generalize numsA bs (bs.getD 0 0).toNat 1 [] = r at *
      unfold tailP at h
      split at h
      · cases h
      · rename_i h2
        split at h
        · cases h
        · rename_i h3
          split at h
          · cases h
          · rename_i h4
            rw [List.nil_append] at h
            injection h with _ h
            injection h with hns h
            injection h with hd hn
            subst hns
            have hc := (bs.getD 0 0).toNat_lt
            have hdl : d.length = szP bs (1 + (ms.flatMap numB).length) := by rw [← hd, List.length_take, List.length_drop]; omega
            have e := digs_szP (bs := bs) (p := 1 + (ms.flatMap numB).length) (by omega)
            have e2 : bs.drop (1 + (ms.flatMap numB).length + 2) = d ++ bs.drop n := by
              have e0 : bs.drop n = (bs.drop (1 + (ms.flatMap numB).length + 2)).drop (szP bs (1 + (ms.flatMap numB).length)) := by rw [List.drop_drop, hn]
              rw [e0, ← hd, List.take_append_drop]
            have e1 : bs = bs.getD 0 0 :: bs.drop 1 := head_eq h0
            have e3 : bs.drop 1 = ms.flatMap numB ++ bs.drop (1 + (ms.flatMap numB).length) := by
              rw [← List.drop_drop, g4, List.drop_left]
            refine ⟨?_, by omega, bs.drop n, ?_, ?_⟩
            · unfold packE
              simp only
              rw [if_neg (by omega), if_neg]
              intro ha
              obtain ⟨m, hm, hs⟩ := List.any_eq_true.1 ha
              have := g3 m hm
              have := (sizeI_ok this.1 this.2).1
              have := of_decide_eq_true hs
              omega
            · rw [hdl.symm] at e
              have hbb : b8 ms.length = bs.getD 0 0 := UInt8.toNat_inj.1 (by rw [b8_toNat _ (by omega), g1])
              unfold packX
              simp only [hbb]
              calc bs = bs.getD 0 0 :: bs.drop 1 := e1
                _ = _ := by rw [e3, e, e2]; simp
            · have hx : (packX (ms, d)).length = 1 + (ms.flatMap numB).length + 2 + d.length := by
                unfold packX
                rw [List.length_append, List.length_append, List.length_cons, digs_length]
                simp only
                omega
              omega
    · rename_i h1
      injection h with h _
      exact (h1 h).elim
theorem cutP_short {f : Fl} (h : packE f = 0) {X Y : List UInt8} (hX : packX f = X ++ Y) (hY : 0 < Y.length) : cutP X = (3, [], [], 0) := by
  obtain ⟨h1, h2, h3⟩ := packE_zero h
  match X, hX with
  | [], _ => rfl
  | x :: X, hX =>
    have hX' : b8 f.1.length :: (f.1.flatMap numB ++ (digs f.2.length 2 ++ f.2)) = x :: (X ++ Y) := by rw [show x :: (X ++ Y) = packX f from hX.symm]; simp [packX]
    injection hX' with hx hX2
    subst hx
    have hb : (b8 f.1.length).toNat = f.1.length := b8_toNat _ (by omega)
    unfold cutP
    simp only [List.length_cons, List.getD_cons_zero, hb]
    rw [if_neg (by omega)]
    rcases List.append_eq_append_iff.1 hX2 with ⟨Z, g1, g2⟩ | ⟨Z, g1, g2⟩
    · have hA := numsA_put (bs := b8 f.1.length :: X) (p := 1) (acc := []) h3 (rest := Z) (by simpa using g1)
      rw [hA, if_pos rfl]
      simp only [List.nil_append]
      have hZ : (b8 f.1.length :: X).drop (1 + (f.1.flatMap numB).length) = Z := by rw [← List.drop_drop, List.drop_one, List.tail_cons, g1, List.drop_left]
      have hZl := congrArg List.length hZ
      have hg2 := congrArg List.length g2
      rw [List.length_drop, List.length_cons] at hZl
      rw [List.length_append, List.length_append, digs_length] at hg2
      have hXl := congrArg List.length g1
      rw [List.length_append] at hXl
      unfold tailP
      rw [List.length_cons]
      by_cases c1 : X.length + 1 < 1 + (f.1.flatMap numB).length + 2
      · rw [if_pos c1]
      · rw [if_neg c1]
        rcases List.append_eq_append_iff.1 g2 with ⟨V, v1, v2⟩ | ⟨V, v1, v2⟩
        · rw [v1] at hZ
          obtain ⟨hs, _⟩ := szP_digs (by omega) hZ
          have v2l := congrArg List.length v2
          have v1l := congrArg List.length v1
          rw [List.length_append] at v2l v1l
          rw [digs_length] at v1l
          rw [hs, if_neg (by omega), if_pos (by omega)]
        · have v1l := congrArg List.length v1
          rw [List.length_append, digs_length] at v1l
          have hV : V = [] := List.eq_nil_of_length_eq_zero (by omega)
          subst hV
          rw [List.append_nil] at v1
          obtain ⟨hs, _⟩ := szP_digs (bs := b8 f.1.length :: X) (n := f.2.length) (rest := []) (by omega) (by rw [hZ, ← v1, List.append_nil])
          simp at v2
          have v2l := congrArg List.length v2
          rw [hs, if_neg (by omega), if_pos (by omega)]
    · by_cases hZ : Z = []
      · subst hZ
        rw [List.append_nil] at g1
        have hA := numsA_put (bs := b8 f.1.length :: X) (p := 1) (acc := []) h3 (rest := []) (by simpa using g1.symm)
        rw [hA, if_pos rfl]
        have hXl := congrArg List.length g1
        unfold tailP
        simp only
        rw [List.length_cons, if_pos (by omega)]
      · have hA := numsA_short (bs := b8 f.1.length :: X) (p := 1) (acc := []) h3 (Y := Z) (by simpa using g1) (List.length_pos_iff.2 hZ)
        rw [hA, if_neg (by decide)]
end Go.Proofs.YthjdbmfobmnnlaaGreat

/-
  Layer 2: what is unpacked; the plain laws.
-/
namespace Go.Proofs.YthjdbmfobmnnlaaGreat
open Go.RowKit
set_option linter.unusedVariables false
theorem tailP_fall {bs : List UInt8} {ns : List Int} {p : Nat} (h : (tailP bs ns p).1 ≠ 0) : (tailP bs ns p).2 = ([], [], 0) := by
  unfold tailP at h ⊢
  by_cases c1 : bs.length < p + 2
  · rw [if_pos c1]
  · rw [if_neg c1] at h ⊢
    by_cases c2 : 4096 < szP bs p
    · rw [if_pos c2]
    · rw [if_neg c2] at h ⊢
      by_cases c3 : bs.length < p + 2 + szP bs p
      · rw [if_pos c3]
      · rw [if_neg c3] at h; exact (h rfl).elim
theorem cutP_fall {bs : List UInt8} (h : (cutP bs).1 ≠ 0) : (cutP bs).2 = ([], [], 0) := by
  unfold cutP at h ⊢
  by_cases c1 : bs.length = 0
  · rw [if_pos c1]
  · rw [if_neg c1] at h ⊢
    by_cases c2 : (numsA bs (bs.getD 0 0).toNat 1 []).1 = 0
    · rw [if_pos c2] at h ⊢; exact tailP_fall h
    · rw [if_neg c2]
theorem cutP_len (bs : List UInt8) : (cutP bs).2.1.length ≤ 255 := by
  by_cases h : (cutP bs).1 = 0
  · exact (packE_zero (cutP_back (bs := bs) (Prod.ext h rfl)).1).1
  · rw [cutP_fall h]; exact Nat.zero_le _
theorem unpackP_len (bs : List UInt8) : (unpackP bs).2.1.length ≤ 255 := by
  unfold unpackP
  split
  · exact Nat.zero_le _
  · exact cutP_len bs
theorem unpackP_fall {bs : List UInt8} (h : (unpackP bs).1 ≠ 0) : (unpackP bs).2 = ([], []) := by
  unfold unpackP at h ⊢
  by_cases c : (cutP bs).1 = 0 ∧ (cutP bs).2.2.2 ≠ bs.length
  · rw [if_pos c]
  · rw [if_neg c] at h ⊢
    have := cutP_fall (bs := bs) h
    simp [this]
theorem unpackP_back {bs : List UInt8} {ns : List Int} {d : List UInt8} (h : unpackP bs = (0, ns, d)) : packE (ns, d) = 0 ∧ bs = packX (ns, d) := by
  unfold unpackP at h
  by_cases c : (cutP bs).1 = 0 ∧ (cutP bs).2.2.2 ≠ bs.length
  · rw [if_pos c] at h; cases h
  · rw [if_neg c] at h
    injection h with h0 h
    injection h with h1 h2
    obtain ⟨g1, g2, rest, g3, g4⟩ := cutP_back (bs := bs) (ns := ns) (d := d) (n := (cutP bs).2.2.2) (by rw [← h1, ← h2]; exact Prod.ext h0 rfl)
    refine ⟨g1, ?_⟩
    have hn : (cutP bs).2.2.2 = bs.length := Classical.byContradiction fun hne => c ⟨h0, hne⟩
    have hl := congrArg List.length g3
    rw [List.length_append, ← g4, hn] at hl
    rw [List.eq_nil_of_length_eq_zero (show rest.length = 0 by omega), List.append_nil] at g3
    exact g3
theorem unpackP_put {f : Fl} (h : packE f = 0) : unpackP (packX f) = (0, f.1, f.2) := by
  have := cutP_put h []
  rw [List.append_nil] at this
  unfold unpackP
  rw [this, if_neg (by simp)]
theorem unpackP_short {bs : List UInt8} (h : cutP bs = (3, [], [], 0)) : unpackP bs = (3, [], []) := by
  unfold unpackP
  rw [h, if_neg (fun h => by cases h.1)]
theorem packX_le {f : Fl} (h : packE f = 0) : (packX f).length ≤ 7000 := by
  obtain ⟨h1, h2, h3⟩ := packE_zero h
  have := packX_length f
  have := sum_le (ns := f.1) h3
  omega
theorem wf_fair {n : Int} (h : 0 ≤ n ∧ n < 72057594037927936) : (Lit.int .i64 n).wf = true := by
  simp [Lit.wf, IntKind.min, IntKind.max, IntKind.bits, IntKind.signed]
  omega
end Go.Proofs.YthjdbmfobmnnlaaGreat
