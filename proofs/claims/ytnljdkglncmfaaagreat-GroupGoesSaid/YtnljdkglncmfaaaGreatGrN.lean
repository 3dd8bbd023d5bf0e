/-
  A group is made.
-/
import Derived.Test.YtnljdkglncmfaaaGreatGrA
import Derived.Test.YtnljdkglncmfaaaGreatBn
import Derived.Test.YtnljdkglncmfaaaGreatGp
namespace Go.Proofs.YtnljdkglncmfaaaGreat
open Go.RowKit
set_option linter.unusedVariables false
theorem of_raw {w : World} {G ma n m : Nat} {X : Value} (i : Nat) (hG : w.heap[G]? = some (.cells #[.slice (some ⟨ma, 0, none⟩) n m, X] 65)) (hi : i < n) (hn : n ≤ 16) : Calls Tryz.prog 29 #[.pointer (some ⟨G, 0, none⟩), .int .i64 ((i : Int) + 1)] w fun e w' => e = .returned (.pointer (some ⟨ma, i * 2, none⟩)) ∧ w' = w := by
  obtain ⟨c0, c1, f0, f1, hlt⟩ := box2 hG
  have hwr : IntKind.i64.wrap (i : Int) = (i : Int) := wrap_id (by omega) (by omega)
  have hi0 : (0 : Int) ≤ (i : Int) := by omega
  have hi1 : (i : Int) < (n : Int) := by omega
  clear hG
  go_enter Tryz.func29, Tryz.ntmps29
  go_wp2
  go_ret
  exact ⟨rfl, rfl⟩
/-- A member is made anew; one cell of the members' row is written. -/
def RetAnew (m' : Mb) (ma i : Nat) (w : World) (e : Ending) (w' : World) : Prop := e = .returned (.tuple #[]) ∧ ∃ b' a' w1, Below w.heap.size w w1 ∧ MAt w1 b' a' m' ∧ (∀ y ∈ foot b' a', w.heap.size ≤ y) ∧ w' = w1.setCell ⟨ma, i * 2, none⟩ (.pointer (some ⟨b', 0, none⟩))
set_option maxRecDepth 100000 in
set_option maxHeartbeats 6400000 in
theorem anew_raw {w : World} {G ma n m V : Nat} {X Y : Value} {R : Array Value} {P : Nat → Prop} {x : Vt} (i : Nat) (hG : w.heap[G]? = some (.cells #[.slice (some ⟨ma, 0, none⟩) n m, X] 65)) (hrow : w.heap[ma]? = some (.cells R 70)) (hR : R[i * 2 + 1]? = some (.pointer (some ⟨V, 0, none⟩))) (hR0 : R[i * 2]? = some Y) (hi : i < n) (hn : n ≤ 16) (hV : VtAt w V (V + 1) P x) (hx : VtOk x)
    (hok : newOk ((i : Int) + 1) n x.2.2.1 x.2.2.2.1 0 0 x.2.2.2.2 = true) : Calls Tryz.prog 26 #[.pointer (some ⟨G, 0, none⟩), .int .i64 ((i : Int) + 1)] w (RetAnew (fresh ((i : Int) + 1) n x) ma i w) := by
  have HOF := Lib.hid (of_raw i hG hi hn)
  have c1 := (blk_cell hrow (i * 2 + 1)).trans hR
  have HP0 : Hid (R[i * 2]? = some Y) := hR0
  have hlt := blk_lt hrow
  obtain ⟨csV, hcsV⟩ := hV.blkV
  have HLD : Hid (Calls Tryz.prog 52 #[.pointer (some ⟨V, 0, none⟩)] w (RetLoad x.2.2 w)) := load_any V (V + 1) x w hV (by omega) (by have := held_le hx; omega)
  have HNE : Hid (∀ W A c, LogIn W A c x.2.2.2.2 → Calls Tryz.prog 53 #[.int .i64 ((i : Int) + 1), .int .i64 (n : Int), ballotV x.2.2.1 x.2.2.2.1, logV 0 0 A x.2.2.2.2.length c] W (RetNew (fresh ((i : Int) + 1) n x) W)) := fun W A c hl => new_yes ((i : Int) + 1) x.2.2.1 x.2.2.2.1 n A c x.2.2.2.2 W hl hok
  have HGB := Lib.hid hG
  clear hV hx hok hcsV
  generalize fresh ((i : Int) + 1) n x = m' at *
  obtain ⟨bs, n0, t, v, es⟩ := x
  simp only at HLD HNE
  obtain ⟨g0, g1, gf0, gf1, glt⟩ := box2 hG
  have c0 := (blk_cell hrow (i * 2)).trans hR0
  have f0 := blk_frozen hrow (i * 2)
  have f1 := blk_frozen hrow (i * 2)
  go_enter Tryz.func26, Tryz.ntmps26
  go_upto_region 2 with (first
    | (go_at_call 29; refine HOF.out.mono ?_; rintro e wx ⟨rfl, hwx⟩; subst hwx)
    | (go_at_call 52; refine HLD.out.mono ?_; rintro e w1 ⟨A1, c1', rfl, own1, hb1⟩; simp only at own1))
  have hal := below2 w1 (.cells #[.int .i64 t, .int .i64 v] 34) (.cells #[.int .i64 0, .int .i64 0, .slice A1 es.length c1'] 55)
  have b0 := alloc2_fst w1 (.cells #[.int .i64 t, .int .i64 v] 34) (.cells #[.int .i64 0, .int .i64 0, .slice A1 es.length c1'] 55)
  have b1 := alloc2_snd w1 (.cells #[.int .i64 t, .int .i64 v] 34) (.cells #[.int .i64 0, .int .i64 0, .slice A1 es.length c1'] 55)
  have hb2 := hb1.trans (hal.mono hb1.size)
  have own2 := own_below own1 hal
  have rowW := blk_keep hb2 hrow
  have gW := blk_keep hb2 HGB.out
  generalize (w1.alloc (.cells #[.int .i64 t, .int .i64 v] 34)).alloc (.cells #[.int .i64 0, .int .i64 0, .slice A1 es.length c1'] 55) = W2 at *
  clear c0 c1 f0 f1 hlt g0 g1 gf0 gf1 glt
  generalize w1.heap.size = F at *
  obtain ⟨bc0, bc1, bf0, bf1, blt⟩ := box2 b0
  obtain ⟨lc0, lc1, lc2, lf0, lf1, lf2, llt⟩ := box3 b1
  obtain ⟨gc0, gc1, gf0, gf1, glt⟩ := box2 gW
  have rf := blk_frozen rowW (i * 2)
  have rl := blk_lt rowW
  have rc := (blk_cell rowW (i * 2)).trans HP0.out
  have HN2 := Lib.hid (HNE.out _ A1 c1' (LogIn.of_own (own_drawn own2)))
  go_region_law (first
    | (go_simp; go_at_call 53; refine HN2.out.mono ?_; rintro e w3 ⟨b3, a3, rfl, H3, hF3, hb3⟩; have row3 := blk_keep hb3 (blk_drawn rowW); have rf3 := blk_frozen row3 (i * 2); have rl3 := blk_lt row3; have rc3 := (blk_cell row3 (i * 2)).trans HP0.out; (try go_simp)))
  all_goals (
    refine bodyPost_end (results_none rfl _ _ _) rfl ?_
    exact ⟨rfl, b3, a3, w3, hb2.drew.trans (hb3.mono hb2.size), H3, fun y hy => Nat.le_trans hb2.size (hF3 y hy), rfl⟩)
/-! ### A group is made -/
def nilV (k : Nat) : List Value := List.replicate k (.pointer none)
theorem nilV_two (k : Nat) : nilV ((k + 1) * 2) = .pointer none :: .pointer none :: nilV (k * 2) := by
  rw [show (k + 1) * 2 = k * 2 + 1 + 1 by omega]
  rfl
theorem row_next (l : List ML) (q : ML) (k : Nat) : ((ptrV l ++ nilV ((k + 1) * 2)).set (l.length * 2 + 1) (.pointer (some ⟨q.v, 0, none⟩))).set (l.length * 2) (.pointer (some ⟨q.b, 0, none⟩)) = ptrV (l ++ [q]) ++ nilV (k * 2) := by
  have h1 : (ptrV l).length = l.length * 2 := ptrV_length l
  rw [nilV_two, List.set_append_right _ _ (by omega), List.set_append_right _ _ (by omega), h1, show l.length * 2 + 1 - l.length * 2 = 1 by omega, show l.length * 2 - l.length * 2 = 0 by omega]
  have h2 : ptrV (l ++ [q]) = ptrV l ++ [.pointer (some ⟨q.b, 0, none⟩), .pointer (some ⟨q.v, 0, none⟩)] := by
    unfold ptrV
    rw [List.flatMap_append]
    rfl
  rw [h2, List.append_assoc]
  rfl
/-- A group of which so many members are made. -/
structure GPt (B : Nat) (w : World) (G ma n : Nat) (l : List ML) : Prop where
  blk : w.heap[G]? = some (.cells #[.slice (some ⟨ma, 0, none⟩) n n, .slice none 0 0] 65)
  row : w.heap[ma]? = some (.cells (ptrV l ++ nilV ((n - l.length) * 2)).toArray 70)
  le : l.length ≤ n
  mem : ∀ (i : Nat) (q : ML), l[i]? = some q → MAt w q.b q.a (newMb ((i : Int) + 1) n 0 0 []) ∧ VtAt w q.v (q.v + 1) (fun y => y ∈ ([] : List Nat)) vt0
  apart : ∀ (i j : Nat) (q r : ML), i ≠ j → l[i]? = some q → l[j]? = some r → (∀ x ∈ foot q.b q.a, x ∉ foot r.b r.a) ∧ q.v ≠ r.v
  base : B ≤ G ∧ B ≤ ma ∧ ∀ q ∈ l, (∀ x ∈ foot q.b q.a, B ≤ x) ∧ B ≤ q.v ∧ q.r = []
theorem GPt.below {B : Nat} {w w' : World} {G ma n : Nat} {l : List ML} (h : GPt B w G ma n l) (hb : Below w.heap.size w w') : GPt B w' G ma n l :=
  ⟨blk_keep hb h.blk, blk_keep hb h.row, h.le, fun i q hq => ⟨(h.mem i q hq).1.below hb, (h.mem i q hq).2.below hb⟩, h.apart, h.base⟩
theorem GPt.next {B : Nat} {w w1 w3 : World} {G ma n V b : Nat} {a : MA} {l : List ML} (h : GPt B w G ma n l) (hlt : l.length < n) (hB : B ≤ w.heap.size) (h1 : Below w.heap.size w w1) (hV : w.heap.size ≤ V) (hv : VtAt w1 V (V + 1) (fun _ => False) vt0)
    (h3 : Below (w1.setCell ⟨ma, l.length * 2 + 1, none⟩ (.pointer (some ⟨V, 0, none⟩))).heap.size (w1.setCell ⟨ma, l.length * 2 + 1, none⟩ (.pointer (some ⟨V, 0, none⟩))) w3) (hm : MAt w3 b a (newMb ((l.length : Int) + 1) n 0 0 [])) (hf : ∀ y ∈ foot b a, w1.heap.size ≤ y) :
    GPt B (w3.setCell ⟨ma, l.length * 2, none⟩ (.pointer (some ⟨b, 0, none⟩))) G ma n (l ++ [⟨b, a, V, []⟩]) := by
  have hp := h.below h1
  have hmaS := blk_lt hp.row
  have rw2 := blk_set (i := l.length * 2 + 1) hp.row (.pointer (some ⟨V, 0, none⟩))
  have rw3 := blk_keep h3 rw2
  have rw4 := blk_set (i := l.length * 2) rw3 (.pointer (some ⟨b, 0, none⟩))
  have hC : Chg [ma] w1 (w1.setCell ⟨ma, l.length * 2 + 1, none⟩ (.pointer (some ⟨V, 0, none⟩))) := (Chg.refl _ _).setCell (.inl (by simp)) _ _
  have hC2 : Chg [ma] w1 (w3.setCell ⟨ma, l.length * 2, none⟩ (.pointer (some ⟨b, 0, none⟩))) := (hC.below h3).setCell (.inl (by simp)) _ _
  have hGma : G ≠ ma := ne_kind hp.blk hp.row (by decide)
  have hMof : ∀ {b' : Nat} {a' : MA} {m' : Mb}, MAt w1 b' a' m' → MAt (w3.setCell ⟨ma, l.length * 2, none⟩ (.pointer (some ⟨b, 0, none⟩))) b' a' m' := fun hM => hM.chg hC2 fun x hx hc => by
    rw [List.mem_singleton] at hc
    subst hc
    rcases hM.kind hx hp.row with e | e | e <;> exact absurd e (by decide)
  have hVof : ∀ {V' : Nat} {P : Nat → Prop} {x : Vt}, VtAt w1 V' (V' + 1) P x → VtAt (w3.setCell ⟨ma, l.length * 2, none⟩ (.pointer (some ⟨b, 0, none⟩))) V' (V' + 1) P x := fun hv => hv.chgRow hp.row (by decide) (by decide) (by decide) hC2
  have hmaf : ma ∉ foot b a := fun hc => by have := hf ma hc; omega
  have hk : n - l.length = (n - (l.length + 1)) + 1 := by omega
  refine ⟨?_, ?_, by rw [List.length_append]; simp; omega, ?_, ?_, ⟨h.base.1, h.base.2.1, fun q hq => ?_⟩⟩
  · exact hC2.keep hp.blk (by simpa using hGma)
  · rw [rw4]
    congr 2
    apply Array.ext'
    simp only [Array.toList_setIfInBounds, List.length_append, List.length_singleton]
    rw [hk]
    exact row_next l ⟨b, a, V, []⟩ (n - (l.length + 1))
  · intro i q hq
    by_cases hi : i < l.length
    · rw [List.getElem?_append_left hi] at hq
      obtain ⟨k1, k2⟩ := hp.mem i q hq
      exact ⟨hMof k1, hVof k2⟩
    · rw [List.getElem?_append_right (by omega)] at hq
      have hi0 : i = l.length := by
        have := (List.getElem?_eq_some_iff.1 hq).1
        simp at this
        omega
      subst hi0
      simp at hq
      subst hq
      refine ⟨hm.chg ((Chg.refl [ma] w3).setCell (.inl (by simp)) _ _) fun x hx hc => ?_, ?_⟩
      · rw [List.mem_singleton] at hc
        subst hc
        exact hmaf hx
      · have := hVof hv
        obtain ⟨D, cd, A, c, g, o1, o2, oP⟩ := this
        exact ⟨D, cd, A, c, g, o1, o2, fun y hy => (oP y hy).elim⟩
  · intro i j q r hne hq hr
    by_cases hi : i < l.length <;> by_cases hj : j < l.length
    · rw [List.getElem?_append_left hi] at hq
      rw [List.getElem?_append_left hj] at hr
      exact h.apart i j q r hne hq hr
    · rw [List.getElem?_append_left hi] at hq
      rw [List.getElem?_append_right (by omega)] at hr
      have hj0 : j - l.length = 0 := by have := (List.getElem?_eq_some_iff.1 hr).1; simp at this; omega
      rw [hj0] at hr
      simp at hr
      subst hr
      obtain ⟨k1, k2⟩ := h.mem i q hq
      refine ⟨fun x hx hc => ?_, ?_⟩
      · have := k1.lt x hx; have := hf x hc; have := h1.size; omega
      · obtain ⟨cs, hcs⟩ := k2.blkV
        have := blk_lt hcs
        show q.v ≠ V
        omega
    · rw [List.getElem?_append_left hj] at hr
      rw [List.getElem?_append_right (by omega)] at hq
      have hj0 : i - l.length = 0 := by have := (List.getElem?_eq_some_iff.1 hq).1; simp at this; omega
      rw [hj0] at hq
      simp at hq
      subst hq
      obtain ⟨k1, k2⟩ := h.mem j r hr
      refine ⟨fun x hx hc => ?_, ?_⟩
      · have := k1.lt x hc; have := hf x hx; have := h1.size; omega
      · obtain ⟨cs, hcs⟩ := k2.blkV
        have := blk_lt hcs
        show V ≠ r.v
        omega
    · have q1 := (List.getElem?_eq_some_iff.1 hq).1
      have q2 := (List.getElem?_eq_some_iff.1 hr).1
      simp at q1 q2
      omega
  · rcases List.mem_append.1 hq with h4 | h4
    · exact h.base.2.2 q h4
    · rw [List.mem_singleton] at h4
      subst h4
      exact ⟨fun x hx => by have := hf x hx; have := h1.size; omega, by show B ≤ V; omega, rfl⟩
theorem GPt.whole {B : Nat} {w : World} {G ma n : Nat} {l : List ML} (h : GPt B w G ma n l) (hl : l.length = n) : GAt w G ⟨l, ma, n, none, 0, []⟩ (newGr n) ∧ ∀ x ∈ gall G ⟨l, ma, n, none, 0, []⟩, B ≤ x := by
  have hms : (newGr n).ms.length = n := by simp [newGr]
  have hr := h.row
  rw [hl, Nat.sub_self, Nat.zero_mul] at hr
  have hb := h.blk
  refine ⟨⟨?_, by rw [hms]; exact hl, ?_, ?_, MsAt.nil _ _, h.apart, ?_, (fun s hs => by cases hs), ?_⟩, ?_⟩
  · rw [hms]; exact hb
  · simpa [nilV] using hr
  · intro i q p hq hp
    have hi : i < n := by rw [← hl]; exact (List.getElem?_eq_some_iff.1 hq).1
    have hpe : p = (newMb ((i : Int) + 1) n 0 0 [], vt0) := by
      unfold newGr at hp
      simp only [List.getElem?_map, List.getElem?_range hi, Option.map_some] at hp
      injection hp with hp
      exact hp.symm
    subst hpe
    have hrq := (h.base.2.2 q (List.mem_of_getElem? hq)).2.2
    rw [hrq]
    exact h.mem i q hq
  · intro q hq r _ x hx
    rw [(h.base.2.2 q hq).2.2] at hx
    cases hx
  · intro q hq x hx
    rw [(h.base.2.2 q hq).2.2] at hx
    cases hx
  · intro x hx
    rcases gall_cases hx with rfl | rfl | hx | ⟨q, hq, hx⟩ | ⟨s, hs, hx⟩
    · exact h.base.1
    · exact h.base.2.1
    · cases hx
    · obtain ⟨k1, k2, k3⟩ := h.base.2.2 q hq
      rcases hx with hx | rfl | hx
      · exact k1 x hx
      · exact k2
      · rw [k3] at hx; cases hx
    · cases hs
theorem elemG : Elem Tryz.prog 63 70 (.agg #[.pointer none, .pointer none]) 2 16 := ⟨Tryz.underlying63, by kernel_rfl, rfl, by omega⟩
theorem nil_rep (n : Nat) : (madeCells (Value.agg #[.pointer none, .pointer none]).cells (n * 2)).toList = nilV (n * 2) := by
  apply List.ext_getElem?
  intro i
  by_cases hi : i < n * 2
  · have h1 : (nilV (n * 2))[i]? = some (.pointer none) := by simp [nilV, hi]
    rw [h1]
    have hm : i % 2 = 0 ∨ i % 2 = 1 := by omega
    rcases hm with h | h <;> simp [madeCells, Value.cells, hi, h]
  · rw [List.getElem?_eq_none (by simp [madeCells]; omega), List.getElem?_eq_none (by simp [nilV]; omega)]
/-- A group of so many was made. -/
def RetGr (n : Nat) (w : World) (e : Ending) (w' : World) : Prop := ∃ G L, e = .returned (.tuple #[.pointer (some ⟨G, 0, none⟩), .int .i64 0]) ∧ GAt w' G L (newGr n) ∧ (∀ x ∈ gall G L, w.heap.size ≤ x) ∧ Below w.heap.size w w'
set_option maxHeartbeats 1600000 in
theorem gnew_no (many : Int) (w : World) (h : many < 1 ∨ 16 < many) : Calls Tryz.prog 11 #[.int .i64 many] w fun e w' => e = .returned (.tuple #[.pointer none, .int .i64 1]) ∧ w' = w := by
  by_cases h1 : many < 1
  · clear h
    go_enter Tryz.func11, Tryz.ntmps11
    go_wp2
    go_ret2
    exact ⟨rfl, rfl⟩
  · have h2 : 16 < many := by omega
    clear h
    go_enter Tryz.func11, Tryz.ntmps11
    go_wp2
    go_ret2
    exact ⟨rfl, rfl⟩
set_option maxRecDepth 100000 in
set_option maxHeartbeats 6400000 in
theorem gnew_any (n : Nat) (w : World) (h1 : 1 ≤ n) (h16 : n ≤ 16) : Calls Tryz.prog 11 #[.int .i64 (n : Int)] w (RetGr n w) := by
  obtain ⟨CS, hCS, hmk⟩ : ∃ CS : Array Value, CS.toList = nilV (n * 2) ∧ ∀ W, (Instr.makeSlice 63 (.int .i64 (n : Int)) (.int .i64 (n : Int))).run Tryz.prog W = .ok (.slice (some ⟨W.heap.size, 0, none⟩) n n) (W.alloc (.cells CS 70)) := by
    obtain ⟨i, hi, hz, hsize, hby⟩ := info_parts elemG.info
    refine ⟨_, nil_rep n, fun W => ?_⟩
    have := run_make (P := Tryz.prog) W 63 70 i _ elemG.under hi hz .i64 .i64 (n : Int) (n : Int) (by omega) (by omega) (by rw [hby]; omega) (by omega)
    rw [hsize] at this
    simpa using this
  have hCA : CS = (nilV (n * 2)).toArray := Array.ext' (by simpa using hCS)
  subst hCA
  clear hCS
  have hn1 : (1 : Int) ≤ (n : Int) := by omega
  have hn2 : (n : Int) ≤ 16 := by omega
  have hg0 := alloc2_fst w (.cells (nilV (n * 2)).toArray 70) (.cells #[.slice (some ⟨w.heap.size, 0, none⟩) n n, .slice none 0 0] 65)
  have hg1 := alloc2_snd w (.cells (nilV (n * 2)).toArray 70) (.cells #[.slice (some ⟨w.heap.size, 0, none⟩) n n, .slice none 0 0] 65)
  have hal := below2 w (.cells (nilV (n * 2)).toArray 70) (.cells #[.slice (some ⟨w.heap.size, 0, none⟩) n n, .slice none 0 0] 65)
  have hGP : GPt w.heap.size ((w.alloc (.cells (nilV (n * 2)).toArray 70)).alloc (.cells #[.slice (some ⟨w.heap.size, 0, none⟩) n n, .slice none 0 0] 65)) (w.heap.size + 1) w.heap.size n [] := ⟨hg1, by simpa [ptrV] using hg0, Nat.zero_le _, fun i q hq => by simp at hq, fun i j q r _ hq => by simp at hq, by omega, by omega, fun q hq => by cases hq⟩
  obtain ⟨c0, c1, f0, f1, hlt⟩ := box2 hg1
  go_enter Tryz.func11, Tryz.ntmps11
  go_wp2
  clear c0 c1 f0 f1 hlt hg0 hg1
  generalize (w.alloc (.cells (nilV (n * 2)).toArray 70)).alloc (.cells #[.slice (some ⟨w.heap.size, 0, none⟩) n n, .slice none 0 0] 65) = w0 at *
  go_loopw [21] (fun i wr => ∃ (l : List ML), i = .int .i64 (l.length : Nat) ∧ GPt w.heap.size wr (w.heap.size + 1) w.heap.size n l ∧ Below w.heap.size w wr) (fun i _ => n - (intOf i).toNat)
  case atStart => exact ⟨[], rfl, hGP, hal⟩
  case round =>
    clear hGP hal
    obtain ⟨l, rfl, hP, hB⟩ := hrel
    have hk0 : (0 : Int) ≤ (l.length : Int) := by omega
    have hle := hP.le
    obtain ⟨c0, c1, f0, f1, hlt⟩ := box2 hP.blk
    by_cases hlt2 : l.length < n
    · have hk1 : (l.length : Int) < (n : Int) := by omega
      have hwr : IntKind.i64.wrap ((l.length : Int) + 1) = (l.length : Int) + 1 := wrap_id (by omega) (by omega)
      go_wp2
      have HN := Lib.hid (new_any wr.drew)
      have hrl := blk_lt hP.row
      have hrf := blk_frozen hP.row (l.length * 2 + 1)
      have hRs : (ptrV l ++ nilV ((n - l.length) * 2)).toArray[l.length * 2 + 1]? = some (.pointer none) := by
        simp only [List.getElem?_toArray]
        rw [List.getElem?_append_right (by rw [ptrV_length]; omega), ptrV_length]
        unfold nilV
        rw [List.getElem?_replicate, if_pos (by omega)]
      have hrc := (blk_cell hP.row (l.length * 2 + 1)).trans hRs
      have HPH := Lib.hid hP
      go_region_law (first
        | (go_simp; go_at_call 25; refine HN.out.mono ?_; rintro e w1 ⟨rfl, hv1, hs1, hb1⟩; have hP1 := HPH.out.below ((Below.refl _ _).drew.trans hb1); obtain ⟨d0, d1, df0, df1, dlt⟩ := box2 hP1.blk; have drl := blk_lt hP1.row; have drf := blk_frozen hP1.row (l.length * 2 + 1); have drc := (blk_cell hP1.row (l.length * 2 + 1)).trans hRs; (try go_simp)))
      · have hCs : Chg [w.heap.size] w1 (w1.setCell ⟨w.heap.size, l.length * 2 + 1, none⟩ (.pointer (some ⟨wr.heap.size, 0, none⟩))) := (Chg.refl _ _).setCell (.inl (by simp)) _ _
        have rw2 := blk_set (i := l.length * 2 + 1) hP1.row (.pointer (some ⟨wr.heap.size, 0, none⟩))
        have bG2 := hCs.keep hP1.blk (by simp)
        have hv2 := hv1.chgRow hP1.row (by decide) (by decide) (by decide) hCs
        have hRs0 : (ptrV l ++ nilV ((n - l.length) * 2)).toArray[l.length * 2]? = some (.pointer none) := by
          simp only [List.getElem?_toArray]
          rw [List.getElem?_append_right (by rw [ptrV_length]; omega), ptrV_length]
          unfold nilV
          rw [List.getElem?_replicate, if_pos (by omega)]
        have hsz : l.length * 2 + 1 < (ptrV l ++ nilV ((n - l.length) * 2)).toArray.size := by
          have := (Array.getElem?_eq_some_iff.1 hRs).1
          exact this
        have HAN := Lib.hid (anew_raw (n := n) (m := n) (Y := .pointer none) l.length bG2 rw2 (by rw [Array.getElem?_setIfInBounds, if_pos rfl, if_pos hsz]; rfl) (by rw [Array.getElem?_setIfInBounds, if_neg (by omega)]; exact hRs0) hlt2 h16 hv2 vt0_ok (fresh_pair (x := vt0) hlt2 h16 vt0_ok (Nat.zero_le _) rfl (fun e he => by cases he) (Int.le_refl _)).1)
        go_wp2_with (go_at_call 26; refine HAN.out.mono ?_; rintro e w9 ⟨rfl, b4, a4, w4, hb4, H4, hF4, rfl⟩)
        go_roundw
        case rel =>
          have hbW : Below wr.heap.size wr w1 := (Below.refl _ _).drew.trans hb1
          refine ⟨l ++ [⟨b4, a4, wr.heap.size, []⟩], by simp; try omega, HPH.out.next hlt2 hB.size hbW (Nat.le_refl _) hv1 hb4 H4 (fun y hy => by have := hF4 y hy; simpa using this), ?_⟩
          exact ((hB.trans (hbW.mono hB.size)).setCell (p := ⟨w.heap.size, l.length * 2 + 1, none⟩) (Nat.le_refl _) _ |>.trans (hb4.mono (by simp; have := hb1.size; have := hB.size; have := hbW.size; omega))).setCell (p := ⟨w.heap.size, l.length * 2, none⟩) (Nat.le_refl _) _
        case measure => simp [intOf]; omega
      · have hCs : Chg [w.heap.size] w1 (w1.setCell ⟨w.heap.size, l.length * 2 + 1, none⟩ (.pointer (some ⟨wr.heap.size, 0, none⟩))) := (Chg.refl _ _).setCell (.inl (by simp)) _ _
        have rw2 := blk_set (i := l.length * 2 + 1) hP1.row (.pointer (some ⟨wr.heap.size, 0, none⟩))
        have bG2 := hCs.keep hP1.blk (by simp)
        have hv2 := hv1.chgRow hP1.row (by decide) (by decide) (by decide) hCs
        have hRs0 : (ptrV l ++ nilV ((n - l.length) * 2)).toArray[l.length * 2]? = some (.pointer none) := by
          simp only [List.getElem?_toArray]
          rw [List.getElem?_append_right (by rw [ptrV_length]; omega), ptrV_length]
          unfold nilV
          rw [List.getElem?_replicate, if_pos (by omega)]
        have hsz : l.length * 2 + 1 < (ptrV l ++ nilV ((n - l.length) * 2)).toArray.size := by
          have := (Array.getElem?_eq_some_iff.1 hRs).1
          exact this
        have HAN := Lib.hid (anew_raw (n := n) (m := n) (Y := .pointer none) l.length bG2 rw2 (by rw [Array.getElem?_setIfInBounds, if_pos rfl, if_pos hsz]; rfl) (by rw [Array.getElem?_setIfInBounds, if_neg (by omega)]; exact hRs0) hlt2 h16 hv2 vt0_ok (fresh_pair (x := vt0) hlt2 h16 vt0_ok (Nat.zero_le _) rfl (fun e he => by cases he) (Int.le_refl _)).1)
        go_wp2_with (go_at_call 26; refine HAN.out.mono ?_; rintro e w9 ⟨rfl, b4, a4, w4, hb4, H4, hF4, rfl⟩)
        go_roundw
        case rel =>
          have hbW : Below wr.heap.size wr w1 := (Below.refl _ _).drew.trans hb1
          refine ⟨l ++ [⟨b4, a4, wr.heap.size, []⟩], by simp; try omega, HPH.out.next hlt2 hB.size hbW (Nat.le_refl _) hv1 hb4 H4 (fun y hy => by have := hF4 y hy; simpa using this), ?_⟩
          exact ((hB.trans (hbW.mono hB.size)).setCell (p := ⟨w.heap.size, l.length * 2 + 1, none⟩) (Nat.le_refl _) _ |>.trans (hb4.mono (by simp; have := hb1.size; have := hB.size; have := hbW.size; omega))).setCell (p := ⟨w.heap.size, l.length * 2, none⟩) (Nat.le_refl _) _
        case measure => simp [intOf]; omega
    · have hk1 : ¬ (l.length : Int) < (n : Int) := by omega
      obtain ⟨hGA, hGL⟩ := hP.whole (by omega)
      have HGA := Lib.hid hGA
      clear hP
      go_wp2
      go_ret2
      exact ⟨_, _, rfl, HGA.out, hGL, hB⟩
end Go.Proofs.YtnljdkglncmfaaaGreat
