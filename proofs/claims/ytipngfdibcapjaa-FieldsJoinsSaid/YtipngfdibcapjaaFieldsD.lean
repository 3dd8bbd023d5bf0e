/-
  Layer 2: a number's bytes as the document has them.
-/
import Derived.Test.YtipngfdibcapjaaFieldsC
namespace Go.Proofs.Ytipngfdibcapjaa
open Go.RowKit
set_option linter.unusedVariables false
theorem made_bytes (n : Nat) : (madeCells (Value.int .u8 0).cells (n * 1)).toList = (List.replicate n (0 : UInt8)).map byteV := by
  apply List.ext_getElem?
  intro i
  by_cases hi : i < n
  · rw [List.getElem?_map, List.getElem?_replicate, if_pos hi]
    have : i < (madeCells (Value.int .u8 0).cells (n * 1)).toList.length := by rw [Array.length_toList, size_madeCells]; omega
    rw [List.getElem?_eq_getElem this]
    simp [madeCells, Value.cells, byteV, Nat.mod_one]
  · rw [List.getElem?_eq_none (by rw [Array.length_toList, size_madeCells]; omega), List.getElem?_eq_none (by simp; omega)]
theorem set_drop {X Z : List UInt8} {d : UInt8} {j : Nat} (hj : j < X.length) (h : X.drop (j + 1) = Z) : (X.set j d).drop j = d :: Z := by
  rw [List.drop_eq_getElem_cons (by simpa using hj), List.getElem_set_self, List.drop_set_of_lt (by omega), h]
theorem wpList_make_bytes {ops : Array Oper} {rest : List Oper} {o : Oper} {a : Act} {Q : Exit → Act → World → Prop} (hg : o.guard = none) (l c : Operand) (hop : o.op = Op.makeSlice 23 l c)
    (base : Nat) (w : World) (kl kc : IntKind) (n : Nat) (hl : a.eval l = .int kl n) (hc : a.eval c = .int kc n) (hn : n ≤ 100000000) (hb : base ≤ w.heap.size)
    (hK : ∀ w', w'.ownsRow base 5 1 (.slice (some ⟨w.heap.size, 0, none⟩) n n) n ((List.replicate n (0 : UInt8)).map byteV) → w.grownBy w' none → wpList Try.prog ops Q rest (a.put o.dst (.slice (some ⟨w.heap.size, 0, none⟩) n n)) w') :
    wpList Try.prog ops Q (o :: rest) a w := by
  obtain ⟨i, hi, hz, hs, hby⟩ := info_parts elemB.info
  refine wpList_make_full w hg l c 23 hop base 5 i (.int .u8 0) 1 elemB.under hi hz hs kl kc n n n hl hc rfl rfl (by rw [hby]; omega) (by unfold maxLen; omega) hb fun w' h1 h2 => ?_
  rw [made_bytes] at h1
  exact hK w' h1 h2
theorem div_next (n size j : Nat) (hj : j < size) : n / 256 ^ (size - (j + 1)) / 256 = n / 256 ^ (size - j) := by
  rw [Nat.div_div_eq_div_mul, ← Nat.pow_succ]
  congr 2
  omega
set_option maxHeartbeats 1600000 in
theorem digits_any (n size : Nat) (w : World) (hs : size ≤ 8) (hn : n < 72057594037927936) :
    Calls Try.prog 24 #[.int .i64 n, .int .i64 size] w (RetRow 5 1 size ((digs n size).map byteV) w) := by
  have HN := Lib.hid hn
  clear hn
  go_enter Try.func24, Try.ntmps24
  go_wp2_with (at_make; refine wpList_make_bytes rfl (.tmp 7) (.tmp 7) rfl w.heap.size w .i64 .i64 size (by rfl) (by rfl) (by omega) (Nat.le_refl _) ?_; intro w1 hown1 hg1)
  have hb1 : Below w.heap.size w w1 := (Below.refl _ _).grown hg1 (Nat.le_refl _) (fun k hk => by cases hk)
  have hl1 := hown1.1
  have hgl := (hown1.lt w.heap.size rfl).2
  have hg0 : w.heap.size ≤ w.heap.size := Nat.le_refl _
  obtain ⟨g, hg⟩ : ∃ g, g = w.heap.size := ⟨_, rfl⟩
  have hwg : w.heap.size ≤ g := by omega
  rw [← hg] at hown1 hgl ⊢
  have HG := Lib.hid hg
  clear hl1 hg0 hg
  go_wp2
  go_loopw [0, 6] (fun v i wr => ∃ (j r : Nat) (x : Int) (X : List UInt8), j ≤ size ∧ v = .int .i64 r ∧ i = .int .i64 x ∧ x = (j : Int) - 1 ∧ Hid (r < 72057594037927936) ∧ Hid (r = n / 256 ^ (size - j)) ∧ Hid (X.length = size) ∧ Hid (X.drop j = (digs n size).drop j) ∧ wr.ownsRow g 5 1 (.slice (some ⟨g, 0, none⟩) size size) size (X.map byteV) ∧ Below g w wr) (fun _ i _ => (intOf i + 1).toNat)
  case atStart => exact ⟨size, n, (size : Int) - 1, List.replicate size 0, Nat.le_refl _, rfl, by go_num, rfl, HN.out, by first | exact trivial | (rw [Hid, Nat.sub_self]; simp), by first | exact trivial | simp [Hid], by rw [Hid, List.drop_of_length_le (by simp), List.drop_of_length_le (by simp [digs, digsP])], hown1, by rw [HG.out]; exact hb1⟩
  case round =>
    obtain ⟨j, r, x, X, hj, rfl, rfl, hx, HRB, HR, HXL, HX, hown, hbw⟩ := hrel
    by_cases h0 : j = 0
    · subst h0
      obtain rfl : x = -1 := by omega
      clear hx
      have HX2 : Hid (X = digs n size) := by have := HX.out; rwa [List.drop_zero, List.drop_zero] at this
      go_wp2
      go_ret
      refine ⟨_, _, rfl, ?_, ?_⟩
      · rw [← HX2.out, ← HG.out]; exact hown
      · rw [← HG.out]; exact hbw
    · obtain ⟨k, rfl⟩ : ∃ k, j = k + 1 := ⟨j - 1, by omega⟩
      obtain rfl : x = (k : Int) := by omega
      clear hx
      have hwr : IntKind.i64.wrap ((r : Int) / 256) = (r : Int) / 256 := by have := HRB.out; rw [IntKind.wrap_i64]; omega
      obtain ⟨d, hd⟩ : ∃ d, d = b8 r := ⟨_, rfl⟩
      have hE : ((r : Int) % 256) = (d.toNat : Int) := by rw [hd, b8_mod]; omega
      have HD : Hid ((X.set k d).drop k = (digs n size).drop k) := by
        rw [Hid, digsP_drop n size k (by omega), set_drop (by rw [HXL.out]; omega) HX.out, hd, HR.out]
        rw [show size - 1 - k = size - (k + 1) by omega]
      have HR2 : Hid (r / 256 = n / 256 ^ (size - k)) := by rw [Hid, HR.out]; exact div_next n size k (by omega)
      have HL2 : Hid ((X.set k d).length = size) := by rw [Hid, List.length_set]; exact HXL.out
      have hcg := hown.cellAt k (by omega)
      rw [byte_cell (by rw [HXL.out]; omega)] at hcg
      have hfg := hown.frozenAt k
      have HO := Lib.hid hown
      have hk0 : (0 : Int) ≤ (k : Int) := by omega
      have hk1 : (k : Int) < (size : Int) := by omega
      have hkg : g < wr.heap.size := (hown.lt g rfl).2
      clear hown hd
      go_wp2
      go_roundw
      case rel => exact ⟨k, r / 256, (k : Int) - 1, X.set k d, by omega, by go_num, by go_num, rfl, by have := HRB.out; rw [Hid]; omega, HR2, HL2, HD, by rw [List.map_set]; exact (HO.out.stored k _).1, hbw.setCell (p := ⟨g, k, none⟩) (Nat.le_refl _) _⟩
      case measure => simp [intOf]
end Go.Proofs.Ytipngfdibcapjaa
