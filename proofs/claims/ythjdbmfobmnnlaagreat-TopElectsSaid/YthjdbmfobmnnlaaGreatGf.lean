/-
  Gf: several texts in one.
-/
import Derived.Test.YthjdbmfobmnnlaaGreatGrA
import Derived.Test.YthjdbmfobmnnlaaGreatBn
import Derived.Test.YthjdbmfobmnnlaaGreatGp
import Derived.Test.YthjdbmfobmnnlaaGreatGrB
import Derived.Test.YthjdbmfobmnnlaaGreatRaftS
import Derived.Test.YthjdbmfobmnnlaaGreatBh
import Derived.Test.YthjdbmfobmnnlaaGreatGe
import Derived.Test.YthjdbmfobmnnlaaGreatBl
import Derived.Test.YthjdbmfobmnnlaaGreatTe
/-
  A group is made.
-/
namespace Go.Proofs.YthjdbmfobmnnlaaGreat
open Go.RowKit
set_option linter.unusedVariables false
theorem of_raw {w : World} {G ma n m : Nat} {X : Value} (i : Nat) (hG : w.heap[G]? = some (.cells #[.slice (some ⟨ma, 0, none⟩) n m, X] 57)) (hi : i < n) (hn : n ≤ 16) : Calls Tryz.prog 27 #[.pointer (some ⟨G, 0, none⟩), .int .i64 ((i : Int) + 1)] w fun e w' => e = .returned (.pointer (some ⟨ma, i * 2, none⟩)) ∧ w' = w := by
  obtain ⟨c0, c1, f0, f1, hlt⟩ := box2 hG
  have hwr : IntKind.i64.wrap (i : Int) = (i : Int) := wrap_id (by omega) (by omega)
  have hi0 : (0 : Int) ≤ (i : Int) := by omega
  have hi1 : (i : Int) < (n : Int) := by omega
  clear hG
  go_enter Tryz.func27, Tryz.ntmps27
  go_wp2
  go_ret
  exact ⟨rfl, rfl⟩
/-- A member is made anew; one cell of the members' row is written. -/
def RetAnew (m' : Mb) (ma i : Nat) (w : World) (e : Ending) (w' : World) : Prop := e = .returned (.tuple #[]) ∧ ∃ b' a' w1, Below w.heap.size w w1 ∧ MAt w1 b' a' m' ∧ (∀ y ∈ foot b' a', w.heap.size ≤ y) ∧ w' = w1.setCell ⟨ma, i * 2, none⟩ (.pointer (some ⟨b', 0, none⟩))
set_option maxRecDepth 100000 in
set_option maxHeartbeats 6400000 in
theorem anew_raw {w : World} {G ma n m V : Nat} {X Y : Value} {R : Array Value} {P : Nat → Prop} {x : Vt} (i : Nat) (hG : w.heap[G]? = some (.cells #[.slice (some ⟨ma, 0, none⟩) n m, X] 57)) (hrow : w.heap[ma]? = some (.cells R 62)) (hR : R[i * 2 + 1]? = some (.pointer (some ⟨V, 0, none⟩))) (hR0 : R[i * 2]? = some Y) (hi : i < n) (hn : n ≤ 16) (hV : VtAt w V (V + 1) P x) (hx : VtOk x)
    (hok : newOk ((i : Int) + 1) n x.2.2.1 x.2.2.2.1 0 0 x.2.2.2.2 = true) : Calls Tryz.prog 24 #[.pointer (some ⟨G, 0, none⟩), .int .i64 ((i : Int) + 1)] w (RetAnew (fresh ((i : Int) + 1) n x) ma i w) := by
  have HOF := Lib.hid (of_raw i hG hi hn)
  have c1 := (blk_cell hrow (i * 2 + 1)).trans hR
  have HP0 : Hid (R[i * 2]? = some Y) := hR0
  have hlt := blk_lt hrow
  obtain ⟨csV, hcsV⟩ := hV.blkV
  have HLD : Hid (Calls Tryz.prog 59 #[.pointer (some ⟨V, 0, none⟩)] w (RetLoad x.2.2 w)) := load_any V (V + 1) x w hV (by omega) (by have := held_le hx; omega)
  have HNE : Hid (∀ W A c, LogIn W A c x.2.2.2.2 → Calls Tryz.prog 60 #[.int .i64 ((i : Int) + 1), .int .i64 (n : Int), ballotV x.2.2.1 x.2.2.2.1, logV 0 0 A x.2.2.2.2.length c] W (RetNew (fresh ((i : Int) + 1) n x) W)) := fun W A c hl => new_yes ((i : Int) + 1) x.2.2.1 x.2.2.2.1 n A c x.2.2.2.2 W hl hok
  have HGB := Lib.hid hG
  clear hV hx hok hcsV
  generalize fresh ((i : Int) + 1) n x = m' at *
  obtain ⟨bs, n0, t, v, es⟩ := x
  simp only at HLD HNE
  obtain ⟨g0, g1, gf0, gf1, glt⟩ := box2 hG
  have c0 := (blk_cell hrow (i * 2)).trans hR0
  have f0 := blk_frozen hrow (i * 2)
  have f1 := blk_frozen hrow (i * 2)
  go_enter Tryz.func24, Tryz.ntmps24
  go_upto_region 2 with (first
    | (go_at_call 27; refine HOF.out.mono ?_; rintro e wx ⟨rfl, hwx⟩; subst hwx)
    | (go_at_call 59; refine HLD.out.mono ?_; rintro e w1 ⟨A1, c1', rfl, own1, hb1⟩; simp only at own1))
  have hal := below2 w1 (.cells #[.int .i64 t, .int .i64 v] 114) (.cells #[.int .i64 0, .int .i64 0, .slice A1 es.length c1'] 37)
  have b0 := alloc2_fst w1 (.cells #[.int .i64 t, .int .i64 v] 114) (.cells #[.int .i64 0, .int .i64 0, .slice A1 es.length c1'] 37)
  have b1 := alloc2_snd w1 (.cells #[.int .i64 t, .int .i64 v] 114) (.cells #[.int .i64 0, .int .i64 0, .slice A1 es.length c1'] 37)
  have hb2 := hb1.trans (hal.mono hb1.size)
  have own2 := own_below own1 hal
  have rowW := blk_keep hb2 hrow
  have gW := blk_keep hb2 HGB.out
  generalize (w1.alloc (.cells #[.int .i64 t, .int .i64 v] 114)).alloc (.cells #[.int .i64 0, .int .i64 0, .slice A1 es.length c1'] 37) = W2 at *
  clear c0 c1 f0 f1 hlt g0 g1 gf0 gf1 glt
  generalize w1.heap.size = F at *
  obtain ⟨bc0, bc1, bf0, bf1, blt⟩ := box2 b0
  obtain ⟨lc0, lc1, lc2, lf0, lf1, lf2, llt⟩ := box3 b1
  obtain ⟨gc0, gc1, gf0, gf1, glt⟩ := box2 gW
  have rf := blk_frozen rowW (i * 2)
  have rl := blk_lt rowW
  have rc := (blk_cell rowW (i * 2)).trans HP0.out
  have HN2 := Lib.hid (HNE.out _ A1 c1' (LogIn.of_own (own_drawn own2)))
  go_region_law (first
    | (go_simp; go_at_call 60; refine HN2.out.mono ?_; rintro e w3 ⟨b3, a3, rfl, H3, hF3, hb3⟩; have row3 := blk_keep hb3 (blk_drawn rowW); have rf3 := blk_frozen row3 (i * 2); have rl3 := blk_lt row3; have rc3 := (blk_cell row3 (i * 2)).trans HP0.out; (try go_simp)))
  all_goals (
    refine bodyPost_end (results_none rfl _ _ _) rfl ?_
    exact ⟨rfl, b3, a3, w3, hb2.drew.trans (hb3.mono hb2.size), H3, fun y hy => Nat.le_trans hb2.size (hF3 y hy), rfl⟩)
/-! ### A group is made -/
def nilV (k : Nat) : List Value := List.replicate k (.pointer none)
theorem nilV_two (k : Nat) : nilV ((k + 1) * 2) = .pointer none :: .pointer none :: nilV (k * 2) := by
  rw [show (k + 1) * 2 = k * 2 + 1 + 1 by omega]
  rfl
theorem row_next (l : List ML) (q : ML) (k : Nat) : ((ptrV l ++ nilV ((k + 1) * 2)).set (l.length * 2 + 1) (.pointer (some ⟨q.v, 0, none⟩))).set (l.length * 2) (.pointer (some ⟨q.b, 0, none⟩)) = ptrV (l ++ [q]) ++ nilV (k * 2) := by
  have h1 : (ptrV l).length = l.length * 2 := ptrV_length l
  rw [nilV_two, List.set_append_right _ _ (by omega), List.set_append_right _ _ (by omega), h1, show l.length * 2 + 1 - l.length * 2 = 1 by omega, show l.length * 2 - l.length * 2 = 0 by omega]
  have h2 : ptrV (l ++ [q]) = ptrV l ++ [.pointer (some ⟨q.b, 0, none⟩), .pointer (some ⟨q.v, 0, none⟩)] := by
    unfold ptrV
    rw [List.flatMap_append]
    rfl
  rw [h2, List.append_assoc]
  rfl
/-- A group of which so many members are made. -/
structure GPt (B : Nat) (w : World) (G ma n : Nat) (l : List ML) : Prop where
  blk : w.heap[G]? = some (.cells #[.slice (some ⟨ma, 0, none⟩) n n, .slice none 0 0] 57)
  row : w.heap[ma]? = some (.cells (ptrV l ++ nilV ((n - l.length) * 2)).toArray 62)
  le : l.length ≤ n
  mem : ∀ (i : Nat) (q : ML), l[i]? = some q → MAt w q.b q.a (newMb ((i : Int) + 1) n 0 0 []) ∧ VtAt w q.v (q.v + 1) (fun y => y ∈ ([] : List Nat)) vt0
  apart : ∀ (i j : Nat) (q r : ML), i ≠ j → l[i]? = some q → l[j]? = some r → (∀ x ∈ foot q.b q.a, x ∉ foot r.b r.a) ∧ q.v ≠ r.v
  base : B ≤ G ∧ B ≤ ma ∧ ∀ q ∈ l, (∀ x ∈ foot q.b q.a, B ≤ x) ∧ B ≤ q.v ∧ q.r = []
theorem GPt.below {B : Nat} {w w' : World} {G ma n : Nat} {l : List ML} (h : GPt B w G ma n l) (hb : Below w.heap.size w w') : GPt B w' G ma n l :=
  ⟨blk_keep hb h.blk, blk_keep hb h.row, h.le, fun i q hq => ⟨(h.mem i q hq).1.below hb, (h.mem i q hq).2.below hb⟩, h.apart, h.base⟩
theorem GPt.next {B : Nat} {w w1 w3 : World} {G ma n V b : Nat} {a : MA} {l : List ML} (h : GPt B w G ma n l) (hlt : l.length < n) (hB : B ≤ w.heap.size) (h1 : Below w.heap.size w w1) (hV : w.heap.size ≤ V) (hv : VtAt w1 V (V + 1) (fun _ => False) vt0)
    (h3 : Below (w1.setCell ⟨ma, l.length * 2 + 1, none⟩ (.pointer (some ⟨V, 0, none⟩))).heap.size (w1.setCell ⟨ma, l.length * 2 + 1, none⟩ (.pointer (some ⟨V, 0, none⟩))) w3) (hm : MAt w3 b a (newMb ((l.length : Int) + 1) n 0 0 [])) (hf : ∀ y ∈ foot b a, w1.heap.size ≤ y) :
    GPt B (w3.setCell ⟨ma, l.length * 2, none⟩ (.pointer (some ⟨b, 0, none⟩))) G ma n (l ++ [⟨b, a, V, []⟩]) := by
  have hp := h.below h1
  have hmaS := blk_lt hp.row
  have rw2 := blk_set (i := l.length * 2 + 1) hp.row (.pointer (some ⟨V, 0, none⟩))
  have rw3 := blk_keep h3 rw2
  have rw4 := blk_set (i := l.length * 2) rw3 (.pointer (some ⟨b, 0, none⟩))
  have hC : Chg [ma] w1 (w1.setCell ⟨ma, l.length * 2 + 1, none⟩ (.pointer (some ⟨V, 0, none⟩))) := (Chg.refl _ _).setCell (.inl (by simp)) _ _
  have hC2 : Chg [ma] w1 (w3.setCell ⟨ma, l.length * 2, none⟩ (.pointer (some ⟨b, 0, none⟩))) := (hC.below h3).setCell (.inl (by simp)) _ _
  have hGma : G ≠ ma := ne_kind hp.blk hp.row (by decide)
  have hMof : ∀ {b' : Nat} {a' : MA} {m' : Mb}, MAt w1 b' a' m' → MAt (w3.setCell ⟨ma, l.length * 2, none⟩ (.pointer (some ⟨b, 0, none⟩))) b' a' m' := fun hM => hM.chg hC2 fun x hx hc => by
    rw [List.mem_singleton] at hc
    subst hc
    rcases hM.kind hx hp.row with e | e | e <;> exact absurd e (by decide)
  have hVof : ∀ {V' : Nat} {P : Nat → Prop} {x : Vt}, VtAt w1 V' (V' + 1) P x → VtAt (w3.setCell ⟨ma, l.length * 2, none⟩ (.pointer (some ⟨b, 0, none⟩))) V' (V' + 1) P x := fun hv => hv.chgRow hp.row (by decide) (by decide) (by decide) hC2
  have hmaf : ma ∉ foot b a := fun hc => by have := hf ma hc; omega
  have hk : n - l.length = (n - (l.length + 1)) + 1 := by omega
  refine ⟨?_, ?_, by rw [List.length_append]; simp; omega, ?_, ?_, ⟨h.base.1, h.base.2.1, fun q hq => ?_⟩⟩
  · exact hC2.keep hp.blk (by simpa using hGma)
  · rw [rw4]
    congr 2
    apply Array.ext'
    simp only [Array.toList_setIfInBounds, List.length_append, List.length_singleton]
    rw [hk]
    exact row_next l ⟨b, a, V, []⟩ (n - (l.length + 1))
  · intro i q hq
    by_cases hi : i < l.length
    · rw [List.getElem?_append_left hi] at hq
      obtain ⟨k1, k2⟩ := hp.mem i q hq
      exact ⟨hMof k1, hVof k2⟩
    · rw [List.getElem?_append_right (by omega)] at hq
      have hi0 : i = l.length := by
        have := (List.getElem?_eq_some_iff.1 hq).1
        simp at this
        omega
      subst hi0
      simp at hq
      subst hq
      refine ⟨hm.chg ((Chg.refl [ma] w3).setCell (.inl (by simp)) _ _) fun x hx hc => ?_, ?_⟩
      · rw [List.mem_singleton] at hc
        subst hc
        exact hmaf hx
      · have := hVof hv
        obtain ⟨D, cd, A, c, g, o1, o2, oP⟩ := this
        exact ⟨D, cd, A, c, g, o1, o2, fun y hy => (oP y hy).elim⟩
  · intro i j q r hne hq hr
    by_cases hi : i < l.length <;> by_cases hj : j < l.length
    · rw [List.getElem?_append_left hi] at hq
      rw [List.getElem?_append_left hj] at hr
      exact h.apart i j q r hne hq hr
    · rw [List.getElem?_append_left hi] at hq
      rw [List.getElem?_append_right (by omega)] at hr
      have hj0 : j - l.length = 0 := by have := (List.getElem?_eq_some_iff.1 hr).1; simp at this; omega
      rw [hj0] at hr
      simp at hr
      subst hr
      obtain ⟨k1, k2⟩ := h.mem i q hq
      refine ⟨fun x hx hc => ?_, ?_⟩
      · have := k1.lt x hx; have := hf x hc; have := h1.size; omega
      · obtain ⟨cs, hcs⟩ := k2.blkV
        have := blk_lt hcs
        show q.v ≠ V
        omega
    · rw [List.getElem?_append_left hj] at hr
      rw [List.getElem?_append_right (by omega)] at hq
      have hj0 : i - l.length = 0 := by have := (List.getElem?_eq_some_iff.1 hq).1; simp at this; omega
      rw [hj0] at hq
      simp at hq
      subst hq
      obtain ⟨k1, k2⟩ := h.mem j r hr
      refine ⟨fun x hx hc => ?_, ?_⟩
      · have := k1.lt x hc; have := hf x hx; have := h1.size; omega
      · obtain ⟨cs, hcs⟩ := k2.blkV
        have := blk_lt hcs
        show V ≠ r.v
        omega
    · have q1 := (List.getElem?_eq_some_iff.1 hq).1
      have q2 := (List.getElem?_eq_some_iff.1 hr).1
      simp at q1 q2
      omega
  · rcases List.mem_append.1 hq with h4 | h4
    · exact h.base.2.2 q h4
    · rw [List.mem_singleton] at h4
      subst h4
      exact ⟨fun x hx => by have := hf x hx; have := h1.size; omega, by show B ≤ V; omega, rfl⟩
theorem GPt.whole {B : Nat} {w : World} {G ma n : Nat} {l : List ML} (h : GPt B w G ma n l) (hl : l.length = n) : GAt w G ⟨l, ma, n, none, 0, []⟩ (newGr n) ∧ ∀ x ∈ gall G ⟨l, ma, n, none, 0, []⟩, B ≤ x := by
  have hms : (newGr n).ms.length = n := by simp [newGr]
  have hr := h.row
  rw [hl, Nat.sub_self, Nat.zero_mul] at hr
  have hb := h.blk
  refine ⟨⟨?_, by rw [hms]; exact hl, ?_, ?_, MsAt.nil _ _, h.apart, ?_, (fun s hs => by cases hs), ?_⟩, ?_⟩
  · rw [hms]; exact hb
  · simpa [nilV] using hr
  · intro i q p hq hp
    have hi : i < n := by rw [← hl]; exact (List.getElem?_eq_some_iff.1 hq).1
    have hpe : p = (newMb ((i : Int) + 1) n 0 0 [], vt0) := by
      unfold newGr at hp
      simp only [List.getElem?_map, List.getElem?_range hi, Option.map_some] at hp
      injection hp with hp
      exact hp.symm
    subst hpe
    have hrq := (h.base.2.2 q (List.mem_of_getElem? hq)).2.2
    rw [hrq]
    exact h.mem i q hq
  · intro q hq r _ x hx
    rw [(h.base.2.2 q hq).2.2] at hx
    cases hx
  · intro q hq x hx
    rw [(h.base.2.2 q hq).2.2] at hx
    cases hx
  · intro x hx
    rcases gall_cases hx with rfl | rfl | hx | ⟨q, hq, hx⟩ | ⟨s, hs, hx⟩
    · exact h.base.1
    · exact h.base.2.1
    · cases hx
    · obtain ⟨k1, k2, k3⟩ := h.base.2.2 q hq
      rcases hx with hx | rfl | hx
      · exact k1 x hx
      · exact k2
      · rw [k3] at hx; cases hx
    · cases hs
theorem elemG : Elem Tryz.prog 54 62 (.agg #[.pointer none, .pointer none]) 2 16 := ⟨Tryz.underlying54, by kernel_rfl, rfl, by omega⟩
theorem nil_rep (n : Nat) : (madeCells (Value.agg #[.pointer none, .pointer none]).cells (n * 2)).toList = nilV (n * 2) := by
  apply List.ext_getElem?
  intro i
  by_cases hi : i < n * 2
  · have h1 : (nilV (n * 2))[i]? = some (.pointer none) := by simp [nilV, hi]
    rw [h1]
    have hm : i % 2 = 0 ∨ i % 2 = 1 := by omega
    rcases hm with h | h <;> simp [madeCells, Value.cells, hi, h]
  · rw [List.getElem?_eq_none (by simp [madeCells]; omega), List.getElem?_eq_none (by simp [nilV]; omega)]
/-- A group of so many was made. -/
def RetGr (n : Nat) (w : World) (e : Ending) (w' : World) : Prop := ∃ G L, e = .returned (.tuple #[.pointer (some ⟨G, 0, none⟩), .int .i64 0]) ∧ GAt w' G L (newGr n) ∧ (∀ x ∈ gall G L, w.heap.size ≤ x) ∧ Below w.heap.size w w'
set_option maxHeartbeats 1600000 in
theorem gnew_no (many : Int) (w : World) (h : many < 1 ∨ 16 < many) : Calls Tryz.prog 6 #[.int .i64 many] w fun e w' => e = .returned (.tuple #[.pointer none, .int .i64 1]) ∧ w' = w := by
  by_cases h1 : many < 1
  · clear h
    go_enter Tryz.func6, Tryz.ntmps6
    go_wp2
    go_ret2
    exact ⟨rfl, rfl⟩
  · have h2 : 16 < many := by omega
    clear h
    go_enter Tryz.func6, Tryz.ntmps6
    go_wp2
    go_ret2
    exact ⟨rfl, rfl⟩
set_option maxRecDepth 100000 in
set_option maxHeartbeats 6400000 in
theorem gnew_any (n : Nat) (w : World) (h1 : 1 ≤ n) (h16 : n ≤ 16) : Calls Tryz.prog 6 #[.int .i64 (n : Int)] w (RetGr n w) := by
  obtain ⟨CS, hCS, hmk⟩ : ∃ CS : Array Value, CS.toList = nilV (n * 2) ∧ ∀ W, (Instr.makeSlice 54 (.int .i64 (n : Int)) (.int .i64 (n : Int))).run Tryz.prog W = .ok (.slice (some ⟨W.heap.size, 0, none⟩) n n) (W.alloc (.cells CS 62)) := by
    obtain ⟨i, hi, hz, hsize, hby⟩ := info_parts elemG.info
    refine ⟨_, nil_rep n, fun W => ?_⟩
    have := run_make (P := Tryz.prog) W 54 62 i _ elemG.under hi hz .i64 .i64 (n : Int) (n : Int) (by omega) (by omega) (by rw [hby]; omega) (by omega)
    rw [hsize] at this
    simpa using this
  have hCA : CS = (nilV (n * 2)).toArray := Array.ext' (by simpa using hCS)
  subst hCA
  clear hCS
  have hn1 : (1 : Int) ≤ (n : Int) := by omega
  have hn2 : (n : Int) ≤ 16 := by omega
  have hg0 := alloc2_fst w (.cells (nilV (n * 2)).toArray 62) (.cells #[.slice (some ⟨w.heap.size, 0, none⟩) n n, .slice none 0 0] 57)
  have hg1 := alloc2_snd w (.cells (nilV (n * 2)).toArray 62) (.cells #[.slice (some ⟨w.heap.size, 0, none⟩) n n, .slice none 0 0] 57)
  have hal := below2 w (.cells (nilV (n * 2)).toArray 62) (.cells #[.slice (some ⟨w.heap.size, 0, none⟩) n n, .slice none 0 0] 57)
  have hGP : GPt w.heap.size ((w.alloc (.cells (nilV (n * 2)).toArray 62)).alloc (.cells #[.slice (some ⟨w.heap.size, 0, none⟩) n n, .slice none 0 0] 57)) (w.heap.size + 1) w.heap.size n [] := ⟨hg1, by simpa [ptrV] using hg0, Nat.zero_le _, fun i q hq => by simp at hq, fun i j q r _ hq => by simp at hq, by omega, by omega, fun q hq => by cases hq⟩
  obtain ⟨c0, c1, f0, f1, hlt⟩ := box2 hg1
  go_enter Tryz.func6, Tryz.ntmps6
  go_wp2
  clear c0 c1 f0 f1 hlt hg0 hg1
  generalize (w.alloc (.cells (nilV (n * 2)).toArray 62)).alloc (.cells #[.slice (some ⟨w.heap.size, 0, none⟩) n n, .slice none 0 0] 57) = w0 at *
  go_loopw [21] (fun i wr => ∃ (l : List ML), i = .int .i64 (l.length : Nat) ∧ GPt w.heap.size wr (w.heap.size + 1) w.heap.size n l ∧ Below w.heap.size w wr) (fun i _ => n - (intOf i).toNat)
  case atStart => exact ⟨[], rfl, hGP, hal⟩
  case round =>
    clear hGP hal
    obtain ⟨l, rfl, hP, hB⟩ := hrel
    have hk0 : (0 : Int) ≤ (l.length : Int) := by omega
    have hle := hP.le
    obtain ⟨c0, c1, f0, f1, hlt⟩ := box2 hP.blk
    by_cases hlt2 : l.length < n
    · have hk1 : (l.length : Int) < (n : Int) := by omega
      have hwr : IntKind.i64.wrap ((l.length : Int) + 1) = (l.length : Int) + 1 := wrap_id (by omega) (by omega)
      go_wp2
      have HN := Lib.hid (new_any wr.drew)
      have hrl := blk_lt hP.row
      have hrf := blk_frozen hP.row (l.length * 2 + 1)
      have hRs : (ptrV l ++ nilV ((n - l.length) * 2)).toArray[l.length * 2 + 1]? = some (.pointer none) := by
        simp only [List.getElem?_toArray]
        rw [List.getElem?_append_right (by rw [ptrV_length]; omega), ptrV_length]
        unfold nilV
        rw [List.getElem?_replicate, if_pos (by omega)]
      have hrc := (blk_cell hP.row (l.length * 2 + 1)).trans hRs
      have HPH := Lib.hid hP
      go_region_law (first
        | (go_simp; go_at_call 23; refine HN.out.mono ?_; rintro e w1 ⟨rfl, hv1, hs1, hb1⟩; have hP1 := HPH.out.below ((Below.refl _ _).drew.trans hb1); obtain ⟨d0, d1, df0, df1, dlt⟩ := box2 hP1.blk; have drl := blk_lt hP1.row; have drf := blk_frozen hP1.row (l.length * 2 + 1); have drc := (blk_cell hP1.row (l.length * 2 + 1)).trans hRs; (try go_simp)))
      · have hCs : Chg [w.heap.size] w1 (w1.setCell ⟨w.heap.size, l.length * 2 + 1, none⟩ (.pointer (some ⟨wr.heap.size, 0, none⟩))) := (Chg.refl _ _).setCell (.inl (by simp)) _ _
        have rw2 := blk_set (i := l.length * 2 + 1) hP1.row (.pointer (some ⟨wr.heap.size, 0, none⟩))
        have bG2 := hCs.keep hP1.blk (by simp)
        have hv2 := hv1.chgRow hP1.row (by decide) (by decide) (by decide) hCs
        have hRs0 : (ptrV l ++ nilV ((n - l.length) * 2)).toArray[l.length * 2]? = some (.pointer none) := by
          simp only [List.getElem?_toArray]
          rw [List.getElem?_append_right (by rw [ptrV_length]; omega), ptrV_length]
          unfold nilV
          rw [List.getElem?_replicate, if_pos (by omega)]
        have hsz : l.length * 2 + 1 < (ptrV l ++ nilV ((n - l.length) * 2)).toArray.size := by
          have := (Array.getElem?_eq_some_iff.1 hRs).1
          exact this
        have HAN := Lib.hid (anew_raw (n := n) (m := n) (Y := .pointer none) l.length bG2 rw2 (by rw [Array.getElem?_setIfInBounds, if_pos rfl, if_pos hsz]; rfl) (by rw [Array.getElem?_setIfInBounds, if_neg (by omega)]; exact hRs0) hlt2 h16 hv2 vt0_ok (fresh_pair (x := vt0) hlt2 h16 vt0_ok (Nat.zero_le _) rfl (fun e he => by cases he) (Int.le_refl _)).1)
        go_wp2_with (go_at_call 24; refine HAN.out.mono ?_; rintro e w9 ⟨rfl, b4, a4, w4, hb4, H4, hF4, rfl⟩)
        go_roundw
        case rel =>
          have hbW : Below wr.heap.size wr w1 := (Below.refl _ _).drew.trans hb1
          refine ⟨l ++ [⟨b4, a4, wr.heap.size, []⟩], by simp; try omega, HPH.out.next hlt2 hB.size hbW (Nat.le_refl _) hv1 hb4 H4 (fun y hy => by have := hF4 y hy; simpa using this), ?_⟩
          exact ((hB.trans (hbW.mono hB.size)).setCell (p := ⟨w.heap.size, l.length * 2 + 1, none⟩) (Nat.le_refl _) _ |>.trans (hb4.mono (by simp; have := hb1.size; have := hB.size; have := hbW.size; omega))).setCell (p := ⟨w.heap.size, l.length * 2, none⟩) (Nat.le_refl _) _
        case measure => simp [intOf]; omega
      · have hCs : Chg [w.heap.size] w1 (w1.setCell ⟨w.heap.size, l.length * 2 + 1, none⟩ (.pointer (some ⟨wr.heap.size, 0, none⟩))) := (Chg.refl _ _).setCell (.inl (by simp)) _ _
        have rw2 := blk_set (i := l.length * 2 + 1) hP1.row (.pointer (some ⟨wr.heap.size, 0, none⟩))
        have bG2 := hCs.keep hP1.blk (by simp)
        have hv2 := hv1.chgRow hP1.row (by decide) (by decide) (by decide) hCs
        have hRs0 : (ptrV l ++ nilV ((n - l.length) * 2)).toArray[l.length * 2]? = some (.pointer none) := by
          simp only [List.getElem?_toArray]
          rw [List.getElem?_append_right (by rw [ptrV_length]; omega), ptrV_length]
          unfold nilV
          rw [List.getElem?_replicate, if_pos (by omega)]
        have hsz : l.length * 2 + 1 < (ptrV l ++ nilV ((n - l.length) * 2)).toArray.size := by
          have := (Array.getElem?_eq_some_iff.1 hRs).1
          exact this
        have HAN := Lib.hid (anew_raw (n := n) (m := n) (Y := .pointer none) l.length bG2 rw2 (by rw [Array.getElem?_setIfInBounds, if_pos rfl, if_pos hsz]; rfl) (by rw [Array.getElem?_setIfInBounds, if_neg (by omega)]; exact hRs0) hlt2 h16 hv2 vt0_ok (fresh_pair (x := vt0) hlt2 h16 vt0_ok (Nat.zero_le _) rfl (fun e he => by cases he) (Int.le_refl _)).1)
        go_wp2_with (go_at_call 24; refine HAN.out.mono ?_; rintro e w9 ⟨rfl, b4, a4, w4, hb4, H4, hF4, rfl⟩)
        go_roundw
        case rel =>
          have hbW : Below wr.heap.size wr w1 := (Below.refl _ _).drew.trans hb1
          refine ⟨l ++ [⟨b4, a4, wr.heap.size, []⟩], by simp; try omega, HPH.out.next hlt2 hB.size hbW (Nat.le_refl _) hv1 hb4 H4 (fun y hy => by have := hF4 y hy; simpa using this), ?_⟩
          exact ((hB.trans (hbW.mono hB.size)).setCell (p := ⟨w.heap.size, l.length * 2 + 1, none⟩) (Nat.le_refl _) _ |>.trans (hb4.mono (by simp; have := hb1.size; have := hB.size; have := hbW.size; omega))).setCell (p := ⟨w.heap.size, l.length * 2, none⟩) (Nat.le_refl _) _
        case measure => simp [intOf]; omega
    · have hk1 : ¬ (l.length : Int) < (n : Int) := by omega
      obtain ⟨hGA, hGL⟩ := hP.whole (by omega)
      have HGA := Lib.hid hGA
      clear hP
      go_wp2
      go_ret2
      exact ⟨_, _, rfl, HGA.out, hGL, hB⟩
end Go.Proofs.YthjdbmfobmnnlaaGreat

/-
  What a group tells.
-/
namespace Go.Proofs.YthjdbmfobmnnlaaGreat
open Go.RowKit
set_option linter.unusedVariables false
section
variable {w : World} {G : Nat} {L : GL} {g : Gr}
theorem has_any (h : GAt w G L g) (i : Nat) (hi : i < g.ms.length) : Calls Tryz.prog 37 #[.pointer (some ⟨G, 0, none⟩), .int .i64 ((i : Int) + 1)] w fun e w' => e = .returned (.bool true) ∧ w' = w := by
  obtain ⟨c0, c1, f0, f1, hlt⟩ := h.cells
  have h0 : (1 : Int) ≤ (i : Int) + 1 := by omega
  have h1 : (i : Int) + 1 ≤ (g.ms.length : Int) := by omega
  clear h
  go_enter Tryz.func37, Tryz.ntmps37
  go_wp2
  go_ret
  exact ⟨rfl, rfl⟩
theorem has_no (h : GAt w G L g) (a : Int) (ha : a < 1 ∨ (g.ms.length : Int) < a) : Calls Tryz.prog 37 #[.pointer (some ⟨G, 0, none⟩), .int .i64 a] w fun e w' => e = .returned (.bool false) ∧ w' = w := by
  obtain ⟨c0, c1, f0, f1, hlt⟩ := h.cells
  by_cases h0 : a < 1
  · clear h ha
    go_enter Tryz.func37, Tryz.ntmps37
    go_wp2
    go_ret
    exact ⟨ret_bool (by simp; try omega), rfl⟩
  · have h1 : (g.ms.length : Int) < a := by omega
    clear h ha
    go_enter Tryz.func37, Tryz.ntmps37
    go_wp2
    go_ret
    exact ⟨ret_bool (by simp; try omega), rfl⟩
theorem waiting_any (h : GAt w G L g) : Calls Tryz.prog 8 #[.pointer (some ⟨G, 0, none⟩)] w fun e w' => e = .returned (.int .i64 (g.net.length : Nat)) ∧ w' = w := by
  obtain ⟨c0, c1, f0, f1, hlt⟩ := h.cells
  clear h
  go_enter Tryz.func8, Tryz.ntmps8
  go_wp2
  go_ret
  exact ⟨rfl, rfl⟩
theorem grole_any (h : GAt w G L g) (hn : g.ms.length ≤ 16) {i : Nat} {p : Mb × Vt} (hp : g.ms[i]? = some p) : Calls Tryz.prog 15 #[.pointer (some ⟨G, 0, none⟩), .int .i64 ((i : Int) + 1)] w fun e w' => e = .returned (.int .i64 p.1.role) ∧ Below w.heap.size w w' := by
  have hi : i < g.ms.length := (List.getElem?_eq_some_iff.1 hp).1
  obtain ⟨q, hq⟩ := h.slots hi
  have HHA := Lib.hid (has_any h i hi)
  have HOF := Lib.hid (of_any h i hi hn)
  obtain ⟨c0, c1, f0, f1, hlt⟩ := h.ptrs hq
  have HRO := Lib.hid (role_any (h.mem i q p hq hp).1)
  clear h
  go_enter Tryz.func15, Tryz.ntmps15
  go_wp2_with (first
    | (go_at_call 37; refine HHA.out.mono ?_; rintro e wx ⟨rfl, hwx⟩; subst hwx)
    | (go_at_call 27; refine HOF.out.mono ?_; rintro e wx ⟨rfl, hwx⟩; subst hwx)
    | (go_at_call 40; refine HRO.out.mono ?_; rintro e w1 ⟨rfl, hb1⟩))
  go_ret
  exact ⟨rfl, hb1⟩
theorem glog_any (h : GAt w G L g) (hn : g.ms.length ≤ 16) {i : Nat} {p : Mb × Vt} (hp : g.ms[i]? = some p) (hl : p.1.log.length ≤ 64) : Calls Tryz.prog 10 #[.pointer (some ⟨G, 0, none⟩), .int .i64 ((i : Int) + 1)] w (RetRow 82 7 p.1.log.length (ensV p.1.log) w) := by
  have hi : i < g.ms.length := (List.getElem?_eq_some_iff.1 hp).1
  obtain ⟨q, hq⟩ := h.slots hi
  have HHA := Lib.hid (has_any h i hi)
  have HOF := Lib.hid (of_any h i hi hn)
  obtain ⟨c0, c1, f0, f1, hlt⟩ := h.ptrs hq
  have HLO := Lib.hid (mlog_any (h.mem i q p hq hp).1 hl)
  have hfl : ∀ (A : Option Addr) (n c : Nat) (W : World), (Instr.field 37 (logV 0 0 A n c) 2).run Tryz.prog W = .ok (.slice A n c) W := fun A n c W => by kernel_rfl
  clear h
  go_enter Tryz.func10, Tryz.ntmps10
  go_wp2_with (first
    | (go_at_call 37; refine HHA.out.mono ?_; rintro e wx ⟨rfl, hwx⟩; subst hwx)
    | (go_at_call 27; refine HOF.out.mono ?_; rintro e wx ⟨rfl, hwx⟩; subst hwx)
    | (go_at_call 38; refine HLO.out.mono ?_; rintro e w1 ⟨A1, cc1, rfl, own1, hb1⟩))
  go_ret
  exact ⟨A1, cc1, rfl, own1, hb1⟩
end
theorem World.ownsRow_take {w : World} {base : Nat} {A : Option Addr} {cap k : Nat} {es : List En} (h : w.ownsRow base 82 7 (.slice A es.length cap) es.length (ensV es)) (hk : k ≤ es.length) (hc : es.length ≤ cap) : w.ownsRow base 82 7 (.slice A k cap) k (ensV (es.take k)) := by
  obtain ⟨h1, h2⟩ := h
  refine ⟨by rw [ensV_length, List.length_take, Nat.min_eq_left hk], ?_⟩
  rcases h2 with ⟨hv, h0⟩ | ⟨g, c, cur, hv, hg, hh, hnc, hcm, hsz, ht⟩
  · injection hv with e1 e2 e3
    exact .inl ⟨by rw [e1, e3, show k = 0 by omega], by omega⟩
  · injection hv with e1 e2 e3
    subst e3
    refine .inr ⟨g, cap, cur, by rw [e1], hg, hh, by omega, hcm, hsz, ?_⟩
    rw [← ensV_take, ← ht, List.take_take, Nat.min_eq_left (Nat.mul_le_mul_right 7 hk)]
/-- The entries of a member that are settled. -/
def settledE (m : Mb) : List En := m.log.take m.settled.toNat
set_option maxRecDepth 100000 in
set_option maxHeartbeats 6400000 in
theorem gsettled_any {w : World} {G : Nat} {L : GL} {g : Gr} (h : GAt w G L g) (hn : g.ms.length ≤ 16) {i : Nat} {p : Mb × Vt} (hp : g.ms[i]? = some p) (hl : p.1.log.length ≤ 64) (hs0 : 0 ≤ p.1.settled) (hs64 : p.1.settled ≤ 64) : Calls Tryz.prog 14 #[.pointer (some ⟨G, 0, none⟩), .int .i64 ((i : Int) + 1)] w (RetRow 82 7 (settledE p.1).length (ensV (settledE p.1)) w) := by
  have hi : i < g.ms.length := (List.getElem?_eq_some_iff.1 hp).1
  obtain ⟨q, hq⟩ := h.slots hi
  have HLG := Lib.hid (glog_any h hn hp hl)
  have HG := Lib.hid h
  clear h
  by_cases h0 : p.1.log.length = 0
  · have e1 : settledE p.1 = [] := by unfold settledE; rw [List.eq_nil_of_length_eq_zero h0, List.take_nil]
    rw [e1]
    rw [h0] at HLG
    go_enter Tryz.func14, Tryz.ntmps14
    go_wp2_with (go_at_call 10; refine HLG.out.mono ?_; rintro e w1 ⟨A1, cc1, rfl, own1, hb1⟩)
    go_ret
    exact ⟨none, 0, rfl, World.ownsRow_nil _ _ _ _, hb1⟩
  · obtain ⟨N, hN⟩ : ∃ N : Nat, min (p.1.log.length : Int) p.1.settled = (N : Int) := ⟨(min (p.1.log.length : Int) p.1.settled).toNat, by omega⟩
    have hlen : (settledE p.1).length = N := by unfold settledE; rw [List.length_take]; omega
    have hens : settledE p.1 = p.1.log.take N := by
      unfold settledE
      by_cases hc : p.1.settled.toNat ≤ p.1.log.length
      · rw [show p.1.settled.toNat = N by omega]
      · rw [List.take_of_length_le (by omega), List.take_of_length_le (by omega)]
    rw [hlen, hens]
    have hN1 : N ≤ p.1.log.length := by omega
    have hl0 : ((p.1.log.length : Int) == 0) = false := by rw [beq_eq_false_iff_ne]; omega
    have hn0 : (p.1.log.length == 0) = false := by rw [beq_eq_false_iff_ne]; omega
    go_enter Tryz.func14, Tryz.ntmps14
    go_upto_region 4 with (go_at_call 10; refine HLG.out.mono ?_; rintro e w1 ⟨A1, cc1, rfl, own1, hb1⟩)
    have h1 := HG.out.below hb1
    have HOF := Lib.hid (of_any h1 i hi hn)
    obtain ⟨c0, c1, f0, f1, hlt⟩ := h1.ptrs hq
    have HSE := Lib.hid (settled_any (h1.mem i q p hq hp).1)
    have hcap : p.1.log.length ≤ cc1 := (LogIn.of_own own1).cap
    have hsl : ∀ W, (Instr.slice 34 (.slice A1 p.1.log.length cc1) none (some (.int .i64 (min (p.1.log.length : Int) p.1.settled))) none).run Tryz.prog W = .ok (.slice A1 N cc1) W := fun W => by
      rw [hN]
      exact slice_toS (P := Tryz.prog) elemE A1 p.1.log.length cc1 N (by omega) W
    clear h1
    go_wp2_with (first
      | (go_at_call 27; refine HOF.out.mono ?_; rintro e wx ⟨rfl, hwx⟩; subst hwx)
      | (go_at_call 39; refine HSE.out.mono ?_; rintro e w2 ⟨rfl, hb2⟩))
    go_ret
    exact ⟨A1, cc1, rfl, World.ownsRow_take (own_below own1 hb2) hN1 hcap, hb1.trans (hb2.mono hb1.size)⟩
end Go.Proofs.YthjdbmfobmnnlaaGreat

/-
  The chapter's example.
-/
namespace Go.Proofs.YthjdbmfobmnnlaaGreat
open Go.RowKit
set_option linter.unusedVariables false
theorem exNew : newOk 1 1 0 0 0 0 [] = true := by decide
theorem exOk : MbOk (newMb 1 1 0 0 []) := (newMb_ok exNew).2
theorem exTime : (newMb 1 1 0 0 []).timeout = (⟨1, 1, 1, [(1, 0, 0, 0, 0, 0, 0)], 2, 1, [1], [(1, 1)]⟩, []) := by
  have h1 : (newMb 1 1 0 0 []).stand = ⟨1, 1, 1, [], 1, 0, [1], [(0, 0)]⟩ := rfl
  have h2 : (newMb 1 1 0 0 []).stand.won = true := by rw [h1]; rfl
  have h3 : (newMb 1 1 0 0 []).stand.lead = ⟨1, 1, 1, [(1, 0, 0, 0, 0, 0, 0)], 2, 1, [1], [(1, 1)]⟩ := by
    rw [h1]
    have e1 : (⟨1, 1, 1, [], 1, 0, [1], [(0, 0)]⟩ : Mb).clear = ⟨1, 1, 1, [], 2, 0, [1], [(0, 1)]⟩ := by
      unfold Mb.clear
      rw [show (lastF 0 0 ([] : List En)) = (0, 0) by rw [lastF_may (by decide)]; rfl]
      rfl
    have e2 : (⟨1, 1, 1, [], 2, 0, [1], [(0, 1)]⟩ : Mb).put (0, 0, 0, 0, 0, 0) = ⟨1, 1, 1, [(1, 0, 0, 0, 0, 0, 0)], 2, 0, [1], [(0, 1)]⟩ := rfl
    have hm : mayL 0 0 [((1 : Int), (0 : Int), (0 : Int), (0 : Int), (0 : Int), (0 : Int), (0 : Int))] = true := by decide
    have e3 : (⟨1, 1, 1, [(1, 0, 0, 0, 0, 0, 0)], 2, 0, [1], [(0, 1)]⟩ : Mb).mark = ⟨1, 1, 1, [(1, 0, 0, 0, 0, 0, 0)], 2, 0, [1], [(1, 1)]⟩ := by
      unfold Mb.mark Mb.prAt
      rw [lastF_may hm]
      rfl
    have e4 : (⟨1, 1, 1, [(1, 0, 0, 0, 0, 0, 0)], 2, 0, [1], [(1, 1)]⟩ : Mb).settle = ⟨1, 1, 1, [(1, 0, 0, 0, 0, 0, 0)], 2, 1, [1], [(1, 1)]⟩ := by
      have hc : commitF 0 0 [((1 : Int), (0 : Int), (0 : Int), (0 : Int), (0 : Int), (0 : Int), (0 : Int))] [1] 1 0 = 1 := by
        unfold commitF
        rw [fairL_yes hm]
        have hmo : mostL [1] = 1 := by
          unfold mostL majN
          simp [sortI]
        rw [hmo]
        decide
      unfold Mb.settle
      simp only [List.map_cons, List.map_nil]
      rw [hc]
    unfold Mb.lead
    rw [e1, e2, e3, e4]
  unfold Mb.timeout
  rw [if_neg (by decide), if_pos h2, h3]
  rfl
theorem fieldLog (A : Option Addr) (n c : Nat) (W : World) : (Instr.field 37 (logV 0 0 A n c) 2).run Tryz.prog W = .ok (.slice A n c) W := by kernel_rfl
theorem fieldBallot (t v : Int) (W : World) : (Instr.field 114 (ballotV t v) 0).run Tryz.prog W = .ok (.int .i64 t) W := by kernel_rfl
end Go.Proofs.YthjdbmfobmnnlaaGreat

/-
  The chapter example; what is saved fits.
-/
namespace Go.Proofs.YthjdbmfobmnnlaaGreat
open Go.RowKit
set_option linter.unusedVariables false
/-! ### What is saved fits -/
theorem saveB_le {h : St} {t v : Int} {l : List En} (ok : SaveOk h t v l) : (saveB h t v l).length ≤ 166 + (l.length - commonN h.2.2 l) * 83 := by
  obtain ⟨c1, c2, c3⟩ := commonN_spec h.2.2 l
  have h64 := (mayL_true ok.held.2).2.2.2.2.2.1
  have e1 : (if h.1 = t ∧ h.2.1 = v then ([] : List UInt8) else recB 1 [t, v]).length ≤ 83 := by
    split
    · exact Nat.zero_le _
    · exact (rec_length (ballot_rec ok.vote)).2
  have e2 : (if commonN h.2.2 l < h.2.2.length then recB 3 [((commonN h.2.2 l : Nat) : Int)] else ([] : List UInt8)).length ≤ 83 := by
    split
    · exact (rec_length (left_rec (by omega))).2
    · exact Nat.zero_le _
  have e3 := entRecs_le (l.drop (commonN h.2.2 l)) (commonN h.2.2 l) fun j hj => by
    rw [List.length_drop] at hj
    have hr := ent_rec ok.log (i := commonN h.2.2 l + j) (by omega) (ok.fair _ (List.getElem_mem _))
    rw [List.getElem_drop]
    exact hr
  rw [List.length_drop] at e3
  unfold saveB
  rw [List.length_append, List.length_append]
  omega
theorem saves_fit {m : Mb} {x : Vt} (hm : MbOk m) (hx : VtOk x) (hf : ∀ e ∈ m.log, EnFair e) (hl : x.1.length + 166 + (m.log.length - commonN x.2.2.2.2 m.log) * 83 ≤ 65536) : saves m x = 0 := by
  have ok : SaveOk x.2.2 m.term m.vote m.log := ⟨hx.held, hm.ballot, hm.log, hf⟩
  have hb := saveB_le ok
  unfold saves saveE
  rw [if_pos ⟨hm.ballot, hm.log, rfl, hf⟩, if_neg (by rw [List.length_append]; omega)]
/-! ### The chapter's example -/
abbrev exM : Mb := ⟨1, 1, 1, [(1, 0, 0, 0, 0, 0, 0)], 2, 1, [1], [(1, 1)]⟩
theorem exMOk : MbOk exM := by
  have h := exOk.timeout
  rw [exTime] at h
  exact h
theorem exSave : saves exM vt0 = 0 := saves_fit exMOk vt0_ok (fun e he => by
  simp only [List.mem_singleton] at he
  subst he
  unfold EnFair Fair
  intro n hn
  simp at hn
  subst hn
  decide) (by simp [vt0]; try omega)
theorem exGr : (newGr 1).does 0 1 0 0 = (⟨[(exM, syncV (saved exM vt0))], []⟩, 0) := by
  have e0 : newGr 1 = ⟨[(newMb 1 1 0 0 [], vt0)], []⟩ := rfl
  rw [e0]
  unfold Gr.does
  rw [if_neg (by decide), if_pos rfl]
  have e1 : (⟨[(newMb 1 1 0 0 [], vt0)], []⟩ : Gr).at_ 1 = (newMb 1 1 0 0 [], vt0) := rfl
  rw [e1, exTime]
  unfold Gr.acts
  rw [e1, if_pos exSave]
  rfl
theorem exGrOk : GrOk (newGr 1) := newGr_ok (by decide) (by decide)
end Go.Proofs.YthjdbmfobmnnlaaGreat

/-
  Items among the arguments; how much is on its way.
-/
namespace Go.Proofs.YthjdbmfobmnnlaaGreat
open Go.RowKit
section
open Go.ChangeShapes Go.WideShapes Go.Deep Go.Joins
set_option linter.unusedVariables false
abbrev It := Int × Int × Int × Int
def itC (m : It) : List Value := [.int .i64 m.1, .int .i64 m.2.1, .int .i64 m.2.2.1, .int .i64 m.2.2.2]
/-- Items that came in. -/
structure ItemsIn (w : World) (a : Option Addr) (cap : Nat) (ms : List It) : Prop where
  at_ : ∀ i m, ms[i]? = some m → ∃ b off, a = some ⟨b, off, none⟩ ∧ b < w.heap.size ∧ ∀ j u, (itC m)[j]? = some u → w.cell? ⟨b, off + (i * 4 + j), none⟩ = some u
  cap : ms.length ≤ cap
  none_ : a = none → ms.length = 0
  max : ms.length ≤ maxLen
theorem ItemsIn.below {w w' : World} {a : Option Addr} {cap : Nat} {ms : List It} (h : ItemsIn w a cap ms) (hb : Below w.heap.size w w') : ItemsIn w' a cap ms :=
  ⟨fun i m hi => by
    obtain ⟨b, off, h1, h2, h3⟩ := h.at_ i m hi
    exact ⟨b, off, h1, Nat.lt_of_lt_of_le h2 hb.size, fun j u hj => ((bcell hb).1 _ _ h2).trans (h3 j u hj)⟩, h.cap, h.none_, h.max⟩
theorem item_cells {w : World} {a : Option Addr} {cap : Nat} {ms : List It} (h : ItemsIn w a cap ms) {k : Nat} (hk : k < ms.length) :
    ∃ b off, a = some ⟨b, off, none⟩ ∧ b < w.heap.size ∧ w.cell? ⟨b, off + k * 4, none⟩ = some (.int .i64 (ms[k]).1) ∧ w.cell? ⟨b, off + k * 4 + 1, none⟩ = some (.int .i64 (ms[k]).2.1) ∧ w.cell? ⟨b, off + k * 4 + 2, none⟩ = some (.int .i64 (ms[k]).2.2.1) ∧ w.cell? ⟨b, off + k * 4 + 3, none⟩ = some (.int .i64 (ms[k]).2.2.2) := by
  obtain ⟨b, off, h1, h2, h3⟩ := h.at_ k _ (List.getElem?_eq_getElem hk)
  have e : ∀ j, off + k * 4 + j = off + (k * 4 + j) := fun j => by omega
  refine ⟨b, off, h1, h2, h3 0 _ rfl, ?_, ?_, ?_⟩
  · rw [e 1]; exact h3 1 _ rfl
  · rw [e 2]; exact h3 2 _ rfl
  · rw [e 3]; exact h3 3 _ rfl
section
variable {H : Type} {enc : TypeId × Value → H} {w : World}
theorem cells_item : Tryz.prog.cellsOf 30 = 4 := by kernel_rfl
theorem cells_intI : Tryz.prog.cellsOf 3 = 1 := by kernel_rfl
theorem int_cellI {n : Nat} {cs : List Value} {c : Value} {xs : List (DataW H × List MemPlace)} (f : Field) {i o : Nat} (h : DataW.trod enc Tryz.prog w 0 (fun _ => true) true n f.type ((cs.drop f.offset).take (Tryz.prog.cellsOf f.type)) = xs[i]?) (hi : i < xs.length) (ht : f.type = 3) (ho : f.offset = o) (hc : cs[o]? = some c) : ∃ k, c = .int .i64 k ∧ (Lit.int .i64 k).wf = true := by
  obtain ⟨hol, hoe⟩ := List.getElem?_eq_some_iff.1 hc
  rw [ht, ho, cells_intI, List.getElem?_eq_getElem hi, List.drop_eq_getElem_cons hol, hoe] at h
  obtain ⟨k, h1, _, h2⟩ := DataW.trod_int Tryz.underlying3 h
  simp at h1
  exact ⟨k, h1, h2⟩
theorem list4 {cs : List Value} (h : cs.length = 4) : ∃ c0 c1 c2 c3, cs = [c0, c1, c2, c3] := by
  match cs, h with
  | [c0, c1, c2, c3], _ => exact ⟨c0, c1, c2, c3, rfl⟩
set_option maxRecDepth 100000 in
theorem open_item {fuel : Nat} {cs : List Value} {y : DataW H × List MemPlace} (h : DataW.trod enc Tryz.prog w 0 (fun _ => true) true fuel 30 cs = some y) : ∃ m : It, cs = itC m := by
  obtain ⟨xs, n, _, _, hl, hx, hf⟩ := DataW.trod_struct Tryz.underlying30 h
  rw [cells_item] at hl
  obtain ⟨c0, c1, c2, c3, rfl⟩ := list4 hl
  obtain ⟨k0, rfl, _⟩ := int_cellI _ (i := 0) (c := c0) (hf 0 _ rfl) (by rw [hx]; decide) rfl rfl rfl
  obtain ⟨k1, rfl, _⟩ := int_cellI _ (i := 1) (c := c1) (hf 1 _ rfl) (by rw [hx]; decide) rfl rfl rfl
  obtain ⟨k2, rfl, _⟩ := int_cellI _ (i := 2) (c := c2) (hf 2 _ rfl) (by rw [hx]; decide) rfl rfl rfl
  obtain ⟨k3, rfl, _⟩ := int_cellI _ (i := 3) (c := c3) (hf 3 _ rfl) (by rw [hx]; decide) rfl rfl rfl
  exact ⟨(k0, k1, k2, k3), rfl⟩
set_option maxRecDepth 100000 in
theorem open_item_arg {r : Reach} {b0 : Nat} {v : Value} {d : DataW H} {p : List MemPlace} (hv : Value.okWide Tryz.prog w r b0 30 v) (h : DataW.Trod enc Tryz.prog w 0 (fun _ => true) true 30 v d p) :
    ∃ k a b c, v = itV k a b c ∧ True := by
  obtain ⟨cs, rfl, _⟩ := okWide_struct Tryz.underlying30 hv
  obtain ⟨fuel, hf⟩ := h
  obtain ⟨m, h1⟩ := open_item (show DataW.trod enc Tryz.prog w 0 (fun _ => true) true fuel 30 cs.toList = some (d, p) by simpa [Value.cells] using hf)
  refine ⟨m.1, m.2.1, m.2.2.1, m.2.2.2, ?_, trivial⟩
  obtain ⟨cs⟩ := cs
  simp at h1
  subst h1
  rfl
set_option maxRecDepth 100000 in
theorem open_items_arg {r : Reach} {b0 : Nat} {v : Value} {d : DataW H} {p : List MemPlace} (hv : Value.okWide Tryz.prog w r b0 22 v) (h : DataW.Trod enc Tryz.prog w 0 (fun _ => true) true 22 v d p) :
    ∃ a cap ms, v = .slice a ms.length cap ∧ ItemsIn w a cap ms := by
  obtain ⟨a, l, c, rfl⟩ := okWide_slice Tryz.underlying22 hv
  obtain ⟨fuel, hf⟩ := h
  rcases open_slice Tryz.underlying22 (show DataW.trod enc Tryz.prog w 0 (fun _ => true) true fuel 22 [.slice a l c] = some (d, p) by simpa [Value.cells] using hf) with ⟨h1, _⟩ | ⟨a', len, cap, m, n, D, Pl, hcs, hb, hl, hm, hmm, hx, hi⟩
  · simp at h1
    obtain ⟨rfl, rfl, rfl⟩ := h1
    exact ⟨none, 0, [], rfl, ⟨fun i m h => by simp at h, Nat.le_refl _, fun _ => rfl, Nat.zero_le _⟩⟩
  · simp at hcs
    obtain ⟨rfl, rfl, rfl⟩ := hcs
    obtain ⟨ms, hel, hes⟩ := list_choose (R := fun i (m : It) => ∀ j u, (itC m)[j]? = some u → w.cell? (a'.add (i * 4 + j)) = some u) l fun i hil => by
      obtain ⟨cs', hc, ht⟩ := hi i (by rw [hmm]; simp; omega)
      rw [cells_item] at hc
      obtain ⟨m, rfl⟩ := open_item ht
      obtain ⟨_, _, hat⟩ := World.cells?_some hc
      refine ⟨m, fun j u hj => ?_⟩
      have hj7 : j < 4 := by
        rcases Nat.lt_or_ge j 4 with h | h
        · exact h
        · rw [List.getElem?_eq_none (by exact h)] at hj; cases hj
      rw [← Go.Deep.add_add, hat j hj7]
      exact hj
    subst hel
    refine ⟨some a', c, ms, rfl, ⟨fun i m him => ?_, hl, (fun h => by cases h), Nat.le_trans hl hm⟩⟩
    have h1 := hes i m him
    obtain ⟨b, off, spot⟩ := a'
    have h0 := h1 0 _ rfl
    have hspot : spot = none := by
      have hlt0 : 0 < ms.length := Nat.lt_of_le_of_lt (Nat.zero_le i) (List.getElem?_eq_some_iff.1 him).1
      have z1 := hes 0 _ (List.getElem?_eq_getElem hlt0)
      simpa [Addr.add] using World.cell?_spot (z1 0 _ rfl)
    subst hspot
    have hadd : ∀ j, (⟨b, off, none⟩ : Addr).add j = ⟨b, off + j, none⟩ := fun j => by unfold Addr.add; split <;> simp_all
    rw [hadd] at h0
    exact ⟨b, off, rfl, block_lt_of_cell h0, fun j u hj => by have := h1 j u hj; rwa [hadd] at this⟩
end
end
/-! ### How much is on its way -/
theorem acts_net {g : Gr} {i : Int} {m : Mb} {said : List Ms} : (g.acts i m said).net.length ≤ g.net.length + said.length := by
  unfold Gr.acts
  split
  · show (g.net ++ said).length ≤ _
    rw [List.length_append]
    exact Nat.le_refl _
  · exact Nat.le_add_right _ _
theorem does_net {g : Gr} (h : GrOk g) (k a b c : Int) : (g.does k a b c).1.net.length ≤ g.net.length + 16 := by
  unfold Gr.does
  split
  · exact Nat.le_add_right _ _
  rename_i ht
  have ht : g.there k a = 0 := by
    by_cases q : g.there k a = 0
    · exact q
    · exact (ht q).elim
  split
  · obtain ⟨h1, h2⟩ := GrOk.there_member ht (by omega)
    exact Nat.le_trans acts_net (Nat.add_le_add_left (timeout_le (h.at_ h1 h2).1.mb) _)
  split
  · obtain ⟨h1, h2⟩ := GrOk.there_member ht (by omega)
    exact Nat.le_trans acts_net (Nat.add_le_add_left (beat_le (h.at_ h1 h2).1.mb) _)
  split
  · obtain ⟨h1, h2⟩ := GrOk.there_member ht (by omega)
    unfold Gr.propose
    split
    · exact Nat.le_add_right _ _
    · split
      · exact Nat.le_trans acts_net (Nat.add_le_add_left (propose_le (h.at_ h1 h2).1.mb _) _)
      · exact Nat.le_add_right _ _
  have het : ∀ j, (g.take j).net.length ≤ g.net.length := fun j => List.length_eraseIdx_le ..
  split
  · obtain ⟨h1, h2⟩ := GrOk.there_msg ht (by omega)
    have hm := h.msg h2
    have hg := (h.take a.toNat)
    have := het a.toNat
    have hx := acts_net (g := g.take a.toNat) (i := (g.msg a.toNat).dst) (m := (((g.take a.toNat).at_ (g.msg a.toNat).dst).1.hear (g.msg a.toNat)).1) (said := (((g.take a.toNat).at_ (g.msg a.toNat).dst).1.hear (g.msg a.toNat)).2)
    have hle := hear_le (hg.at_ (i := (g.msg a.toNat).dst) hm.dst.1 hm.dst.2).1.mb (g.msg a.toNat)
    show ((g.take a.toNat).acts _ _ _).net.length ≤ _
    omega
  split
  · exact Nat.le_trans (het _) (Nat.le_add_right _ _)
  split
  · show (g.net ++ [_]).length ≤ _
    rw [List.length_append]
    simp
  split
  · exact Nat.le_add_right _ _
  · exact Nat.le_trans (het _) (Nat.le_add_right _ _)
theorem does_len {g : Gr} (k a b c : Int) : (g.does k a b c).1.ms.length = g.ms.length := by
  unfold Gr.does Gr.propose Gr.hears Gr.torn Gr.crash Gr.anew
  repeat' split
  all_goals first
    | rfl
    | exact Gr.acts_len _ _ _ _
    | exact Gr.set_len _ _ _
    | (simp only [Gr.acts_len, Gr.set_len]; rfl)
/-- An item is done. -/
abbrev Gr.item (g : Gr) (m : It) : Gr := (g.does m.1 m.2.1 m.2.2.1 m.2.2.2).1
end Go.Proofs.YthjdbmfobmnnlaaGreat

/-
  What the law of elections holds, pure.
-/
namespace Go.Proofs.YthjdbmfobmnnlaaGreat
open Go.RowKit
set_option linter.unusedVariables false
/-! ### What one who runs so few items holds -/
structure RanF (n k : Nat) (g : Gr) : Prop where
  ok : GrOk g
  many : g.ms.length = n
  net : g.net.length ≤ 16 * k
  few : FewG k g
  inv : ∃ h, Inv g h
theorem RanF.next {n k : Nat} {g : Gr} (h : RanF n k g) (hk : k < 64) (d a b c : Int) : RanF n (k + 1) (g.does d a b c).1 := by
  obtain ⟨i, hi⟩ := h.inv
  obtain ⟨i', _, hi'⟩ := hi.does h.ok d a b c
  exact ⟨h.ok.does _ _ _ _, by rw [← h.many]; exact does_len _ _ _ _, by have := does_net h.ok d a b c; have := h.net; omega, h.few.does h.ok hk _ _ _ _, i', hi'⟩
theorem RanF.new {n : Nat} (h1 : 1 ≤ n) (h16 : n ≤ 16) : RanF n 0 (newGr n) := ⟨newGr_ok h1 h16, by simp [newGr], Nat.zero_le _, .new n, gh0, newGr_inv n⟩
/-- Messages are lost. -/
structure Lost (n : Nat) (g : Gr) : Prop where
  ok : GrOk g
  many : g.ms.length = n
  net : g.net.length ≤ 640
  few : FewG 40 g
  inv : ∃ h, Inv g h
theorem RanF.lost {n k : Nat} {g : Gr} (h : RanF n k g) (hk : k ≤ 40) : Lost n g := ⟨h.ok, h.many, by have := h.net; omega, h.few.upto hk, h.inv⟩
theorem lose_does {g : Gr} (h : g.net.length ≠ 0) : g.does 4 0 0 0 = (g.take 0, 0) := by
  unfold Gr.does
  have ht : g.there 4 0 = 0 := by rw [there_x (by omega), if_neg (by omega)]
  rw [if_neg (by rw [ht]; exact fun z => z rfl), if_neg (by decide), if_neg (by decide), if_neg (by decide), if_neg (by decide), if_pos rfl]
  rfl
theorem Lost.next {n : Nat} {g : Gr} (h : Lost n g) (hne : g.net.length ≠ 0) : Lost n (g.take 0) ∧ (g.take 0).net.length + 1 = g.net.length := by
  obtain ⟨i, hi⟩ := h.inv
  obtain ⟨i', _, hi'⟩ := hi.does h.ok 4 0 0 0
  have ok := h.ok.does 4 0 0 0
  have few := h.few.lose
  have hl : (g.does 4 0 0 0).1.ms.length = g.ms.length := does_len 4 0 0 0
  have e : (g.does 4 0 0 0).1 = g.take 0 := by rw [lose_does hne]
  rw [e] at ok hi' few hl
  have hn : (g.take 0).net.length + 1 = g.net.length := by
    show (g.net.eraseIdx 0).length + 1 = _
    rw [List.length_eraseIdx, if_pos (by omega)]
    omega
  exact ⟨⟨ok, by rw [hl]; exact h.many, by have := h.net; omega, few, i', hi'⟩, hn⟩
/-- How many messages are on their way, out of memory. -/
def netN (w : World) (G : Nat) : Nat := match w.cell? ⟨G, 1, none⟩ with
  | some (.slice _ k _) => k
  | _ => 0
theorem netN_eq {w : World} {G : Nat} {L : GL} {g : Gr} (h : GAt w G L g) : netN w G = g.net.length := by
  obtain ⟨c0, c1, f0, f1, hlt⟩ := h.cells
  unfold netN
  rw [c1]
/-! ### The newest log -/
/-- No log of those up to one is newer than that one's. -/
structure Best (n m : Nat) (b : Nat) (g : Gr) : Prop where
  here : b < n
  new : ∀ k : Nat, k < m → newerB ((g.mb ((b : Int) + 1)).log.length : Int) (endT (g.mb ((b : Int) + 1)).log 0) ((g.mb ((k : Int) + 1)).log.length : Int) (endT (g.mb ((k : Int) + 1)).log 0) = true
theorem Best.first {n : Nat} {g : Gr} (h : 1 ≤ n) : Best n 1 0 g := ⟨h, fun k hk => by
  obtain rfl : k = 0 := by omega
  exact newerB_refl _ _⟩
theorem Best.keep {n m b : Nat} {g : Gr} (h : Best n m b g) (e : newerB ((g.mb ((b : Int) + 1)).log.length : Int) (endT (g.mb ((b : Int) + 1)).log 0) ((g.mb ((m : Int) + 1)).log.length : Int) (endT (g.mb ((m : Int) + 1)).log 0) = true) : Best n (m + 1) b g := ⟨h.here, fun k hk => by
  by_cases q : k = m
  · rw [q]; exact e
  · exact h.new k (by omega)⟩
theorem Best.turn {n m b : Nat} {g : Gr} (h : Best n m b g) (hm : m < n) (e : newerB ((g.mb ((b : Int) + 1)).log.length : Int) (endT (g.mb ((b : Int) + 1)).log 0) ((g.mb ((m : Int) + 1)).log.length : Int) (endT (g.mb ((m : Int) + 1)).log 0) = false) : Best n (m + 1) m g := ⟨hm, fun k hk => by
  by_cases q : k = m
  · rw [q]; exact newerB_refl _ _
  · exact newerB_trans (newerB_total e) (h.new k (by omega))⟩
theorem Best.cyc {n b : Nat} {g : Gr} (h : Best n n b g) (l : Lost n g) (hnet : g.net.length = 0) : Cyc n ((b : Int) + 1) 0 g := .inl ⟨rfl, l.ok, l.inv, l.many, l.few, List.eq_nil_of_length_eq_zero hnet, fun k k1 k2 _ => by
  have := h.new (k - 1).toNat (by omega)
  rwa [show (((k - 1).toNat : Nat) : Int) + 1 = k by omega] at this⟩
/-! ### A turn -/
/-- What is left of a drain. -/
def DrOf (k : Nat) (g g' : Gr) : Prop := GrOk g' ∧ g'.net.length ≤ 1000 + 16 * k ∧ Gr.drain (3000 - k) g' = Gr.drain 3000 g
theorem drain_ok : ∀ (k : Nat) {g : Gr}, GrOk g → GrOk (Gr.drain k g)
  | 0, g, h => h
  | k + 1, g, h => by
    rw [Gr.drain]
    split
    · exact h
    · exact drain_ok k (h.does _ _ _ _)
theorem drain_len : ∀ (k : Nat) {g : Gr}, (Gr.drain k g).ms.length = g.ms.length
  | 0, g => rfl
  | k + 1, g => by
    rw [Gr.drain]
    split
    · rfl
    · rw [drain_len k]; exact does_len _ _ _ _
end Go.Proofs.YthjdbmfobmnnlaaGreat

/-
  The drain.
-/
namespace Go.Proofs.YthjdbmfobmnnlaaGreat
open Go.RowKit
set_option linter.unusedVariables false
set_option maxRecDepth 100000 in
set_option maxHeartbeats 6400000 in
theorem topDrain_any {w : World} {G : Nat} {L : GL} {g : Gr} (hg : GAt w G L g) (ok : GrOk g) (hn : g.net.length ≤ 1000) :
    Calls Tryz.prog 12 #[.pointer (some ⟨G, 0, none⟩)] w fun e w' => e = .returned (.tuple #[]) ∧ ∃ L', GAt w' G L' (Gr.drain 3000 g) ∧ GStep w G L w' L' := by
  have HR0 : Hid (DrOf 0 g g) := Lib.hid ⟨ok, by omega, rfl⟩
  clear ok hn
  go_enter Tryz.func12, Tryz.ntmps12
  go_wp2
  go_loopw [2] (fun j wr => ∃ (k : Nat) (L' : GL) (g' : Gr), k ≤ 3000 ∧ j = .int .i64 (k : Int) ∧ Hid (DrOf k g g') ∧ GAt wr G L' g' ∧ GStep w G L wr L') (fun j _ => 3000 - (intOf j).toNat)
  case atStart => exact ⟨0, L, g, by omega, rfl, HR0, hg, GStep.refl _ _ _⟩
  case round =>
    clear hg HR0
    obtain ⟨k, L4, g4, hk, rfl, HR, h4, S4⟩ := hrel
    have hk0 : (0 : Int) ≤ (k : Int) := by omega
    by_cases hlt : k < 3000
    · have hk1 : (k : Int) < 3000 := by omega
      have HWA := Lib.hid (waiting_any h4)
      by_cases hz : g4.net.length = 0
      · have HD : Hid (g4 = Gr.drain 3000 g) := by
          have := HR.out.2.2
          rwa [Gr.drain_idle hz] at this
        rw [hz] at HWA
        clear hz
        go_wp2_with (go_at_call 8; refine HWA.out.mono ?_; rintro e wx ⟨rfl, hwx⟩; subst hwx)
        refine bodyPost_end (results_none rfl _ _ _) rfl ?_
        exact ⟨rfl, L4, by rw [← HD.out]; exact h4, S4⟩
      · have hz1 : (0 : Int) < (g4.net.length : Int) := by omega
        have HN5 : Hid (DrOf (k + 1) g (g4.does 3 0 0 0).1) := by
          obtain ⟨o1, o2, o3⟩ := HR.out
          refine ⟨o1.does _ _ _ _, by have := does_net o1 3 0 0 0; omega, ?_⟩
          rw [← o3, show 3000 - k = (3000 - (k + 1)) + 1 by omega, Gr.drain, if_neg hz]
        have HDO : Hid (Calls Tryz.prog 7 #[.pointer (some ⟨G, 0, none⟩), itV 3 0 0 0] wr (RetE (g4.does 3 0 0 0) G L4 wr)) := do_any HR.out.1 h4 _ _ _ _ (by have := HR.out.2.1; omega)
        generalize g4.does 3 0 0 0 = r5 at *
        obtain ⟨g5, e5⟩ := r5
        simp only at HN5
        clear HR hz
        go_wp2_with (first
          | (go_at_call 8; refine HWA.out.mono ?_; rintro e wx ⟨rfl, hwx⟩; subst hwx)
          | (go_at_call 7; refine HDO.out.mono ?_; rintro e w5 ⟨rfl, L5, h5, S5⟩; have S6 := S4.trans S5))
        go_roundw
        case rel => exact ⟨k + 1, L5, g5, by omega, by go_num, HN5, h5, S6⟩
        case measure => simp [intOf]; omega
    · have hk1 : ¬ (k : Int) < 3000 := by omega
      have HD : Hid (g4 = Gr.drain 3000 g) := by
        have := HR.out.2.2
        rwa [show 3000 - k = 0 by omega] at this
      go_wp2
      refine bodyPost_end (results_none rfl _ _ _) rfl ?_
      exact ⟨rfl, L4, by rw [← HD.out]; exact h4, S4⟩
end Go.Proofs.YthjdbmfobmnnlaaGreat

/-
  The law of elections walks.
-/
namespace Go.Proofs.YthjdbmfobmnnlaaGreat
open Go.RowKit
set_option linter.unusedVariables false
theorem Lost.pair {n : Nat} {g : Gr} (h : Lost n g) {i : Nat} (hi : i < n) : ∃ p, g.ms[i]? = some p ∧ g.mb ((i : Int) + 1) = p.1 ∧ MbOk p.1 := by
  obtain ⟨p, hp⟩ : ∃ p, g.ms[i]? = some p := ⟨_, List.getElem?_eq_getElem (by rw [h.many]; exact hi)⟩
  refine ⟨p, hp, ?_, (h.ok.pair i p hp).mb⟩
  unfold Gr.mb
  have hlt := (List.getElem?_eq_some_iff.1 hp).1
  have := at_get (g := g) (i := (i : Int) + 1) (by omega) (by omega)
  rw [show ((i : Int) + 1 - 1).toNat = i by omega, hp] at this
  injection this with this
  rw [← this]
theorem Cyc.pair {n k : Nat} {f : Int} {g : Gr} (c : Cyc n f k g) {i : Nat} (hi : i < n) : ∃ p, g.ms[i]? = some p ∧ g.mb ((i : Int) + 1) = p.1 ∧ MbOk p.1 := by
  obtain ⟨h1, h2, h3⟩ := c.here
  obtain ⟨p, hp⟩ : ∃ p, g.ms[i]? = some p := ⟨_, List.getElem?_eq_getElem (by rw [h2]; exact hi)⟩
  refine ⟨p, hp, ?_, (h1.pair i p hp).mb⟩
  unfold Gr.mb
  have hlt := (List.getElem?_eq_some_iff.1 hp).1
  have := at_get (g := g) (i := (i : Int) + 1) (by omega) (by omega)
  rw [show ((i : Int) + 1 - 1).toNat = i by omega, hp] at this
  injection this with this
  rw [← this]
set_option maxRecDepth 100000 in
set_option maxHeartbeats 6400000 in
theorem topElects_walk (HAW : ∀ W : World, Calls Tryz.prog 5 #[] W fun e w' => e = .returned (.bool true) ∧ Below W.heap.size W w') (many : Int) (ia : Option Addr) (ic : Nat) (its : List It) (w : World) (hits : ItemsIn w ia ic its) :
    Calls Tryz.prog 3 #[.int .i64 many, .slice ia its.length ic] w fun e w' => e = .returned (.bool true) ∧ Below w.heap.size w w' := by
  replace HAW := Lib.hid HAW
  by_cases hquit : 7 < many ∨ 40 < (its.length : Int)
  · have HN : Hid (∀ W, Calls Tryz.prog 6 #[.int .i64 many] W fun e w' => ∃ p er, e = .returned (.tuple #[.pointer p, .int .i64 er]) ∧ Below W.heap.size W w') := fun W => by
      by_cases hm : many < 1 ∨ 16 < many
      · refine (gnew_no many W hm).mono ?_
        rintro e w' ⟨rfl, rfl⟩
        exact ⟨_, _, rfl, below0 _⟩
      · obtain ⟨n, rfl⟩ : ∃ n : Nat, many = (n : Int) := ⟨many.toNat, by omega⟩
        refine (gnew_any n W (by omega) (by omega)).mono ?_
        rintro e w2 ⟨G, L, rfl, h2, hf2, hb2⟩
        exact ⟨_, _, rfl, hb2⟩
    clear hits
    have go : (7 < many) ∨ (¬ 7 < many ∧ 40 < (its.length : Int)) := by omega
    clear hquit
    rcases go with q1 | ⟨q1, q2⟩
    all_goals (
      go_enter Tryz.func3, Tryz.ntmps3
      go_wp2_with (first
        | (go_at_call 5; refine (HAW.out _).mono ?_; rintro e w1 ⟨rfl, hb1⟩)
        | (go_at_call 6; refine (HN.out _).mono ?_; rintro e w2 ⟨p, er, rfl, hb2⟩; have hw2 := hb1.trans (hb2.mono hb1.size)))
      go_ret
      exact ⟨rfl, hw2⟩)
  have q1 : ¬ 7 < many := fun h => hquit (.inl h)
  have q2 : ¬ 40 < (its.length : Int) := fun h => hquit (.inr h)
  by_cases hmany : many < 1
  · have HN : Hid (∀ W, Calls Tryz.prog 6 #[.int .i64 many] W fun e w' => e = .returned (.tuple #[.pointer none, .int .i64 1]) ∧ w' = W) := fun W => gnew_no many W (.inl hmany)
    clear hits hmany hquit
    go_enter Tryz.func3, Tryz.ntmps3
    go_wp2_with (first
      | (go_at_call 5; refine (HAW.out _).mono ?_; rintro e w1 ⟨rfl, hb1⟩)
      | (go_at_call 6; refine (HN.out _).mono ?_; rintro e wx ⟨rfl, hwx⟩; subst hwx))
    go_ret
    exact ⟨rfl, hb1⟩
  obtain ⟨n, rfl⟩ : ∃ n : Nat, many = (n : Int) := ⟨many.toNat, by omega⟩
  have hn1 : 1 ≤ n := by omega
  have hn7 : n ≤ 7 := by omega
  have HN : Hid (∀ W, Calls Tryz.prog 6 #[.int .i64 (n : Int)] W (RetGr n W)) := fun W => gnew_any n W hn1 (by omega)
  have HI := Lib.hid hits
  have hr0 := Lib.hid (RanF.new hn1 (show n ≤ 16 by omega))
  clear hits hmany hquit
  go_enter Tryz.func3, Tryz.ntmps3
  go_wp2_with (first
    | (go_at_call 5; refine (HAW.out _).mono ?_; rintro e w1 ⟨rfl, hb1⟩)
    | (go_at_call 6; refine (HN.out _).mono ?_; rintro e w2 ⟨G, L, rfl, h2, hf2, hb2⟩; have hw2 := hb1.trans (hb2.mono hb1.size); have hfw : ∀ x ∈ gall G L, w.heap.size ≤ x := (fun x hx => Nat.le_trans hb1.size (hf2 x hx))))
  go_loopw [8] (fun j wr => ∃ (k : Nat) (L' : GL) (g : Gr), k ≤ its.length ∧ j = .int .i64 (k : Int) ∧ Hid (RanF n k g) ∧ GAt wr G L' g ∧ (∀ x ∈ gall G L', w.heap.size ≤ x) ∧ Below w.heap.size w wr) (fun j _ => its.length - (intOf j).toNat)
  case atStart => exact ⟨0, L, newGr n, by omega, rfl, hr0, h2, hfw, hw2⟩
  case round =>
    clear h2 hf2 hw2 hfw hb1 hb2 hr0
    obtain ⟨k, L4, g, hk, rfl, HR, h4, hf4, hw4⟩ := hrel
    have hk0 : (0 : Int) ≤ (k : Int) := by omega
    by_cases hlt : k < its.length
    · have hk1 : (k : Int) < (its.length : Int) := by omega
      obtain ⟨nb, noff, rfl, nlt, n0, n1, n2, n3⟩ := item_cells (HI.out.below hw4) hlt
      generalize (its[k]'hlt) = it at *
      obtain ⟨t0, t1, t2, t3⟩ := it
      simp only at n0 n1 n2 n3
      have HN5 := Lib.hid (HR.out.next (by omega) t0 t1 t2 t3)
      have HDO : Hid (Calls Tryz.prog 7 #[.pointer (some ⟨G, 0, none⟩), itV t0 t1 t2 t3] wr (RetE (g.does t0 t1 t2 t3) G L4 wr)) := do_any HR.out.ok h4 _ _ _ _ (by have := HR.out.net; omega)
      generalize g.does t0 t1 t2 t3 = r5 at *
      obtain ⟨g5, e5⟩ := r5
      simp only at HN5
      go_wp2_with (go_at_call 7; refine HDO.out.mono ?_; rintro e w5 ⟨rfl, L5, h5, S5⟩; have hw5 : Below w.heap.size w w5 := hw4.trans (S5.chg.to_below hf4 hw4.size); have hf5 : ∀ x ∈ gall G L5, w.heap.size ≤ x := (fun x hx => (S5.sub x hx).elim (hf4 x) (fun q => Nat.le_trans hw4.size q)))
      go_roundw
      case rel => exact ⟨k + 1, L5, g5, by omega, by go_num, HN5, h5, hf5, hw5⟩
      case measure => simp [intOf]; omega
    have hk1 : ¬ (k : Int) < (its.length : Int) := by omega
    have HL0 := Lib.hid (HR.out.lost (show k ≤ 40 by omega))
    clear HR
    go_wp2
    go_loopw [] (fun wr => ∃ (L' : GL) (g' : Gr), Hid (Lost n g') ∧ GAt wr G L' g' ∧ (∀ x ∈ gall G L', w.heap.size ≤ x) ∧ Below w.heap.size w wr) (fun wr => netN wr G)
    case atStart => exact ⟨L4, g, HL0, h4, hf4, hw4⟩
    case round =>
      clear h4 hf4 hw4 HL0 hk0 hlt hk1 hk
      obtain ⟨L4, g, HL, h4, hf4, hw4⟩ := hrel
      have HWA := Lib.hid (waiting_any h4)
      by_cases hz : g.net.length = 0
      rotate_left 1
      · have hz1 : (0 : Int) < (g.net.length : Int) := by omega
        have HDO : Hid (Calls Tryz.prog 7 #[.pointer (some ⟨G, 0, none⟩), itV 4 0 0 0] wr (RetE (g.take 0, 0) G L4 wr)) := by
          have := do_any HL.out.ok h4 4 0 0 0 (by have := HL.out.net; omega)
          rwa [lose_does hz] at this
        have HN5 := Lib.hid (HL.out.next hz)
        have HNN := Lib.hid (netN_eq h4)
        clear hz
        go_wp2_with (first
          | (go_at_call 8; refine HWA.out.mono ?_; rintro e wx ⟨rfl, hwx⟩; subst hwx)
          | (go_at_call 7; refine HDO.out.mono ?_; rintro e w5 ⟨rfl, L5, h5, S5⟩; have hw5 : Below w.heap.size w w5 := hw4.trans (S5.chg.to_below hf4 hw4.size); have hf5 : ∀ x ∈ gall G L5, w.heap.size ≤ x := (fun x hx => (S5.sub x hx).elim (hf4 x) (fun q => Nat.le_trans hw4.size q))))
        go_roundw
        case rel => exact ⟨L5, g.take 0, HN5.out.1, h5, hf5, hw5⟩
        case measure =>
          have := netN_eq h5
          have := HNN.out
          have := HN5.out.2
          omega
      have HZ := Lib.hid hz
      rw [hz] at HWA
      clear hz
      go_wp2_with (go_at_call 8; refine HWA.out.mono ?_; rintro e wx ⟨rfl, hwx⟩; subst hwx)
      clear HWA
      go_loopw [9, 10] (fun b j wr => ∃ (bi m : Nat), 1 ≤ m ∧ m ≤ n ∧ b = .int .i64 ((bi : Int) + 1) ∧ j = .int .i64 ((m : Int) + 1) ∧ Hid (Best n m bi g) ∧ GAt wr G L4 g ∧ Below w.heap.size w wr) (fun _ j _ => (n + 1 : Nat) - (intOf j).toNat)
      case atStart => exact ⟨0, 1, by omega, by omega, rfl, rfl, Lib.hid (Best.first hn1), h4, hw4⟩
      case round =>
        clear h4 hw4
        obtain ⟨bi, m, hm1, hmn, rfl, rfl, HB, h4, hw4⟩ := hrel
        have hgn : g.ms.length ≤ 16 := HL.out.ok.n16
        by_cases hlt : m < n
        · have hk1 : (m : Int) + 1 ≤ (n : Int) := by omega
          obtain ⟨p, hp, hpm, hpo⟩ := HL.out.pair hlt
          obtain ⟨q, hq, hqm, hqo⟩ := HL.out.pair HB.out.here
          have HL1 : Hid (Calls Tryz.prog 10 #[.pointer (some ⟨G, 0, none⟩), .int .i64 ((m : Int) + 1)] wr (RetRow 82 7 p.1.log.length (ensV p.1.log) wr)) := glog_any h4 hgn hp hpo.len64
          have HL2 : Hid (∀ W, GAt W G L4 g → Calls Tryz.prog 10 #[.pointer (some ⟨G, 0, none⟩), .int .i64 ((bi : Int) + 1)] W (RetRow 82 7 q.1.log.length (ensV q.1.log) W)) := fun W h => glog_any h hgn hq hqo.len64
          have HA1 : Hid (∀ W A c, LogIn W A c p.1.log → Calls Tryz.prog 9 #[logV 0 0 A p.1.log.length c] W fun e w' => e = .returned (.tuple #[.int .i64 (p.1.log.length : Int), .int .i64 (endT p.1.log 0)]) ∧ Below W.heap.size W w') := fun W A c h => by
            have := last_any 0 0 A c p.1.log W h
            rwa [hpo.lastF] at this
          have HA2 : Hid (∀ W A c, LogIn W A c q.1.log → Calls Tryz.prog 9 #[logV 0 0 A q.1.log.length c] W fun e w' => e = .returned (.tuple #[.int .i64 (q.1.log.length : Int), .int .i64 (endT q.1.log 0)]) ∧ Below W.heap.size W w') := fun W A c h => by
            have := last_any 0 0 A c q.1.log W h
            rwa [hqo.lastF] at this
          have HE : Hid (∀ W, Calls Tryz.prog 11 #[.int .i64 (q.1.log.length : Int), .int .i64 (endT q.1.log 0), .int .i64 (p.1.log.length : Int), .int .i64 (endT p.1.log 0)] W fun e w' => e = .returned (.bool (newerB (q.1.log.length : Int) (endT q.1.log 0) (p.1.log.length : Int) (endT p.1.log 0))) ∧ w' = W) := fun W => newer_any _ _ _ _ W
          have HK : Hid (newerB (q.1.log.length : Int) (endT q.1.log 0) (p.1.log.length : Int) (endT p.1.log 0) = true → Best n (m + 1) bi g) := Lib.hid (fun e => HB.out.keep (by rw [hpm, hqm]; exact e))
          have HT : Hid (newerB (q.1.log.length : Int) (endT q.1.log 0) (p.1.log.length : Int) (endT p.1.log 0) = false → Best n (m + 1) m g) := Lib.hid (fun e => HB.out.turn hlt (by rw [hpm, hqm]; exact e))
          clear hp hpm hpo hq hqm hqo HB
          generalize p.1.log = lp at *
          generalize q.1.log = lq at *
          generalize endT lp 0 = tp at *
          generalize endT lq 0 = tq at *
          generalize hnb : newerB (lq.length : Int) tq (lp.length : Int) tp = nb at *
          clear hnb p q
          go_upto_region 18 with (first
            | (go_at_call 10; (with_reducible refine HL1.out.mono ?_); rintro e w5 ⟨A5, c5, rfl, own5, hb5⟩; have h5 := h4.below hb5; have hw5 := hw4.trans (hb5.mono hw4.size); have HA5 := Lib.hid (HA1.out _ A5 c5 (LogIn.of_own own5)); clear own5)
            | (go_at_call 9; (with_reducible refine HA5.out.mono ?_); rintro e w6 ⟨rfl, hb6⟩; have h6 := h5.below hb6; have hw6 := hw5.trans (hb6.mono hw5.size); have HL6 := Lib.hid (HL2.out _ h6))
            | (go_at_call 10; (with_reducible refine HL6.out.mono ?_); rintro e w7 ⟨A7, c7, rfl, own7, hb7⟩; have h7 := h6.below hb7; have hw7 := hw6.trans (hb7.mono hw6.size); have HA7 := Lib.hid (HA2.out _ A7 c7 (LogIn.of_own own7)); clear own7)
            | (go_at_call 9; (with_reducible refine HA7.out.mono ?_); rintro e w8 ⟨rfl, hb8⟩; have h8 := h7.below hb8; have hw8 := hw7.trans (hb8.mono hw7.size)))
          clear h4 hw4 h5 hw5 h6 hw6 h7 hw7 HL1 HL2 HA1 HA2 HA5 HL6 HA7 hb5 hb6 hb7 hb8
          have hwm : IntKind.i64.wrap ((m : Int) + 1 + 1) = (m : Int) + 1 + 1 := wrap_id (by omega) (by omega)
          cases nb with
          | true =>
            go_wp2_with (go_at_call 11; refine (HE.out _).mono ?_; rintro e wx ⟨rfl, hwx⟩; subst hwx)
            go_roundw
            case rel => exact ⟨bi, m + 1, by omega, by omega, rfl, by go_num, Lib.hid (HK.out (by simp)), h8, hw8⟩
            case measure => simp [intOf]; omega
          | false =>
            go_wp2_with (go_at_call 11; refine (HE.out _).mono ?_; rintro e wx ⟨rfl, hwx⟩; subst hwx)
            go_roundw
            case rel => exact ⟨m, m + 1, by omega, by omega, rfl, by go_num, Lib.hid (HT.out (by simp)), h8, hw8⟩
            case measure => simp [intOf]; omega
        obtain rfl : m = n := by omega
        have hk1 : ¬ (m : Int) + 1 ≤ (m : Int) := by omega
        have HC0 := Lib.hid (HB.out.cyc HL.out HZ.out)
        have hbm : bi < m := HB.out.here
        have hff : Hid (1 ≤ (bi : Int) + 1 ∧ (bi : Int) + 1 ≤ (m : Int)) := Lib.hid (by omega)
        clear HB HL HZ
        go_wp2
        go_loopw [15] (fun j wr => ∃ (k : Nat) (L' : GL) (g' : Gr), k ≤ 60 ∧ j = .int .i64 (k : Int) ∧ Hid (Cyc m ((bi : Int) + 1) k g') ∧ GAt wr G L' g' ∧ (∀ x ∈ gall G L', w.heap.size ≤ x) ∧ Below w.heap.size w wr) (fun j _ => 60 - (intOf j).toNat)
        case atStart => exact ⟨0, L4, g, by omega, rfl, HC0, h4, hf4, hw4⟩
        case round =>
          clear h4 hf4 hw4 HC0 hgn hk1 hm1 hmn hlt
          obtain ⟨k, L4, g, hk, rfl, HC, h4, hf4, hw4⟩ := hrel
          have hk0 : (0 : Int) ≤ (k : Int) := by omega
          obtain ⟨gok, gms, gnet⟩ := HC.out.here
          by_cases hlt : k < 60
          · have hk1 : (k : Int) < 60 := by omega
            obtain ⟨hmid, hnx⟩ := HC.out.next hn7 hff.out
            unfold Gr.turn at hnx
            have HN5 := Lib.hid hnx
            have HD1 : Hid (Calls Tryz.prog 7 #[.pointer (some ⟨G, 0, none⟩), itV 0 ((bi : Int) + 1) 0 0] wr (RetE (g.does 0 ((bi : Int) + 1) 0 0) G L4 wr)) := do_any gok h4 _ _ _ _ (by rw [gnet]; exact Nat.zero_le _)
            have gok1 := gok.does 0 ((bi : Int) + 1) 0 0
            have gnet1 : (g.does 0 ((bi : Int) + 1) 0 0).1.net.length ≤ 1000 := by have := does_net gok 0 ((bi : Int) + 1) 0 0; rw [gnet] at this; simp at this; omega
            clear hnx
            generalize g.does 0 ((bi : Int) + 1) 0 0 = r1 at *
            obtain ⟨g1, e1⟩ := r1
            simp only at HN5 gok1 gnet1 hmid
            have HR1 : Hid (∀ W L, GAt W G L g1 → Calls Tryz.prog 12 #[.pointer (some ⟨G, 0, none⟩)] W fun e w' => e = .returned (.tuple #[]) ∧ ∃ L', GAt w' G L' (Gr.drain 3000 g1) ∧ GStep W G L w' L') := fun W L h => topDrain_any h gok1 gnet1
            have gok2 := drain_ok 3000 gok1
            generalize Gr.drain 3000 g1 = g2 at *
            have HD2 : Hid (∀ W L, GAt W G L g2 → Calls Tryz.prog 7 #[.pointer (some ⟨G, 0, none⟩), itV 1 ((bi : Int) + 1) 0 0] W (RetE (g2.does 1 ((bi : Int) + 1) 0 0) G L W)) := fun W L h => do_any gok2 h _ _ _ _ (by rw [hmid]; exact Nat.zero_le _)
            have gok3 := gok2.does 1 ((bi : Int) + 1) 0 0
            have gnet3 : (g2.does 1 ((bi : Int) + 1) 0 0).1.net.length ≤ 1000 := by have := does_net gok2 1 ((bi : Int) + 1) 0 0; rw [hmid] at this; simp at this; omega
            generalize g2.does 1 ((bi : Int) + 1) 0 0 = r3 at *
            obtain ⟨g3, e3⟩ := r3
            simp only at HN5 gok3 gnet3
            have HR3 : Hid (∀ W L, GAt W G L g3 → Calls Tryz.prog 12 #[.pointer (some ⟨G, 0, none⟩)] W fun e w' => e = .returned (.tuple #[]) ∧ ∃ L', GAt w' G L' (Gr.drain 3000 g3) ∧ GStep W G L w' L') := fun W L h => topDrain_any h gok3 gnet3
            generalize Gr.drain 3000 g3 = g4 at *
            clear gok gms gnet gok1 gnet1 gok2 gok3 gnet3 hmid HC
            go_wp2_with (first
              | (go_at_call 7; (with_reducible refine HD1.out.mono ?_); rintro e w5 ⟨rfl, L5, h5, S5⟩; have hw5 : Below w.heap.size w w5 := hw4.trans (S5.chg.to_below hf4 hw4.size); have hf5 : ∀ x ∈ gall G L5, w.heap.size ≤ x := (fun x hx => (S5.sub x hx).elim (hf4 x) (fun q => Nat.le_trans hw4.size q)); have HR5 := Lib.hid (HR1.out _ _ h5))
              | (go_at_call 12; (with_reducible refine HR5.out.mono ?_); rintro e w6 ⟨rfl, L6, h6, S6⟩; have hw6 : Below w.heap.size w w6 := hw5.trans (S6.chg.to_below hf5 hw5.size); have hf6 : ∀ x ∈ gall G L6, w.heap.size ≤ x := (fun x hx => (S6.sub x hx).elim (hf5 x) (fun q => Nat.le_trans hw5.size q)); have HD6 := Lib.hid (HD2.out _ _ h6))
              | (go_at_call 7; (with_reducible refine HD6.out.mono ?_); rintro e w7 ⟨rfl, L7, h7, S7⟩; have hw7 : Below w.heap.size w w7 := hw6.trans (S7.chg.to_below hf6 hw6.size); have hf7 : ∀ x ∈ gall G L7, w.heap.size ≤ x := (fun x hx => (S7.sub x hx).elim (hf6 x) (fun q => Nat.le_trans hw6.size q)); have HR7 := Lib.hid (HR3.out _ _ h7))
              | (go_at_call 12; (with_reducible refine HR7.out.mono ?_); rintro e w8 ⟨rfl, L8, h8, S8⟩; have hw8 : Below w.heap.size w w8 := hw7.trans (S8.chg.to_below hf7 hw7.size); have hf8 : ∀ x ∈ gall G L8, w.heap.size ≤ x := (fun x hx => (S8.sub x hx).elim (hf7 x) (fun q => Nat.le_trans hw7.size q))))
            go_roundw
            case rel => exact ⟨k + 1, L8, g4, by omega, by go_num, HN5, h8, hf8, hw8⟩
            case measure => simp [intOf]; omega
          obtain rfl : k = 60 := by omega
          have hk1 : ¬ ((60 : Nat) : Int) < 60 := by omega
          have hgn : g.ms.length ≤ 16 := gok.n16
          obtain ⟨erole, eset⟩ := HC.out.end_ (by omega)
          obtain ⟨p, hp, hpm, hpo⟩ := HC.out.pair hbm
          have HLB : Hid (Calls Tryz.prog 10 #[.pointer (some ⟨G, 0, none⟩), .int .i64 ((bi : Int) + 1)] wr (RetRow 82 7 p.1.log.length (ensV p.1.log) wr)) := glog_any h4 hgn hp hpo.len64
          have HRO : Hid (∀ W, GAt W G L4 g → Calls Tryz.prog 15 #[.pointer (some ⟨G, 0, none⟩), .int .i64 ((bi : Int) + 1)] W fun e w' => e = .returned (.int .i64 2) ∧ Below W.heap.size W w') := fun W h => by
            have := grole_any h hgn hp
            rwa [← hpm, erole] at this
          have HWA : Hid (∀ W, GAt W G L4 g → Calls Tryz.prog 8 #[.pointer (some ⟨G, 0, none⟩)] W fun e w' => e = .returned (.int .i64 0) ∧ w' = W) := fun W h => by
            have := waiting_any h
            rwa [gnet] at this
          have HLO : Hid (∀ (W : World) (i : Nat), i < m → GAt W G L4 g → Calls Tryz.prog 10 #[.pointer (some ⟨G, 0, none⟩), .int .i64 ((i : Int) + 1)] W (RetRow 82 7 p.1.log.length (ensV p.1.log) W)) := fun W i hi h => by
            obtain ⟨q, hq, hqm, hqo⟩ := HC.out.pair hi
            have := glog_any h hgn hq hqo.len64
            have e := (eset ((i : Int) + 1) (by omega) (by omega)).1
            rwa [← hqm, e, hpm] at this
          have HST : Hid (∀ (W : World) (i : Nat), i < m → GAt W G L4 g → Calls Tryz.prog 14 #[.pointer (some ⟨G, 0, none⟩), .int .i64 ((i : Int) + 1)] W (RetRow 82 7 p.1.log.length (ensV p.1.log) W)) := fun W i hi h => by
            obtain ⟨q, hq, hqm, hqo⟩ := HC.out.pair hi
            have := gsettled_any h hgn hq hqo.len64 hqo.set0 hqo.set64
            have e := (eset ((i : Int) + 1) (by omega) (by omega)).2
            have e2 : settledE q.1 = p.1.log := by unfold settledE; rw [← hqm, e, hpm]
            rwa [e2] at this
          have HSA : Hid (∀ W A c A' c', RowAt W A (ensV p.1.log) → RowAt W A' (ensV p.1.log) → Calls Tryz.prog 13 #[.slice A p.1.log.length c, .slice A' p.1.log.length c'] W fun e w' => e = .returned (.bool true) ∧ Below W.heap.size W w') := fun W A c A' c' r1 r2 => by
            have := same_any A c p.1.log A' c' p.1.log W r1 r2 (by have := hpo.len64; unfold maxLen; omega)
            rwa [show decide (p.1.log = p.1.log) = true from decide_eq_true rfl] at this
          clear erole eset hp hpm hpo HC gok gms gnet hlt
          generalize p.1.log = lp at *
          clear p
          go_wp2_with (go_at_call 10; (with_reducible refine HLB.out.mono ?_); rintro e w5 ⟨A5, c5, rfl, own5, hb5⟩; have h5 := h4.below hb5; have hw5 := hw4.trans (hb5.mono hw4.size))
          have hr5 := RowAt.of_own own5
          have hx5 : Hid (wr.heap.size ≤ w5.heap.size) := hb5.size
          clear HLB own5 h4 hb5
          go_loopw [17] (fun j wx => ∃ (i : Nat), i ≤ m ∧ j = .int .i64 ((i : Int) + 1) ∧ GAt wx G L4 g ∧ RowAt wx A5 (ensV lp) ∧ Below w.heap.size w wx) (fun j _ => (m + 1 : Nat) - (intOf j).toNat)
          case atStart => exact ⟨0, by omega, rfl, h5, hr5, hw5⟩
          case round =>
            clear h5 hr5 hw5
            obtain ⟨i, hi, rfl, h6, hr6, hw6⟩ := hrel
            by_cases him : i < m
            · have hi1 : (i : Int) + 1 ≤ (m : Int) := by omega
              have hwm : IntKind.i64.wrap ((i : Int) + 1 + 1) = (i : Int) + 1 + 1 := wrap_id (by omega) (by omega)
              have HL6 := Lib.hid (HLO.out _ i him h6)
              go_wp2_with (first
                | (go_at_call 10; (with_reducible refine HL6.out.mono ?_); rintro e w7 ⟨A7, c7, rfl, own7, hb7⟩; have h7 := h6.below hb7; have hw7 := hw6.trans (hb7.mono hw6.size); have hr7 := hr6.below hb7; have HS7 := Lib.hid (HSA.out _ A7 c7 A5 c5 (RowAt.of_own own7) hr7); clear own7)
                | (go_at_call 13; (with_reducible refine HS7.out.mono ?_); rintro e w8 ⟨rfl, hb8⟩; have h8 := h7.below hb8; have hw8 := hw7.trans (hb8.mono hw7.size); have hr8 := hr7.below hb8; have HT8 := Lib.hid (HST.out _ i him h8))
                | (go_at_call 14; (with_reducible refine HT8.out.mono ?_); rintro e w9 ⟨A9, c9, rfl, own9, hb9⟩; have h9 := h8.below hb9; have hw9 := hw8.trans (hb9.mono hw8.size); have hr9 := hr8.below hb9; have HS9 := Lib.hid (HSA.out _ A9 c9 A5 c5 (RowAt.of_own own9) hr9); clear own9)
                | (go_at_call 13; (with_reducible refine HS9.out.mono ?_); rintro e w10 ⟨rfl, hb10⟩; have h10 := h9.below hb10; have hw10 := hw9.trans (hb10.mono hw9.size); have hr10 := hr9.below hb10))
              go_roundw
              case rel => exact ⟨i + 1, by omega, by go_num, h10, hr10, hw10⟩
              case measure => simp [intOf]; omega
            have hi1 : ¬ (i : Int) + 1 ≤ (m : Int) := by omega
            have HR6 := Lib.hid (HRO.out _ h6)
            go_wp2_with (first
              | (go_at_call 15; (with_reducible refine HR6.out.mono ?_); rintro e w7 ⟨rfl, hb7⟩; have h7 := h6.below hb7; have hw7 := hw6.trans (hb7.mono hw6.size); have HW7 := Lib.hid (HWA.out _ h7))
              | (go_at_call 8; (with_reducible refine HW7.out.mono ?_); rintro e wx ⟨rfl, hwx⟩; subst hwx))
            go_ret
            exact ⟨rfl, hw7⟩
end Go.Proofs.YthjdbmfobmnnlaaGreat
