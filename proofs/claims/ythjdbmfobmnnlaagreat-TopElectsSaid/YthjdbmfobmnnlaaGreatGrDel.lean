/-
  Messages cloned, one taken out.
-/
import Derived.Test.YthjdbmfobmnnlaaGreatBh
namespace Go.Proofs.YthjdbmfobmnnlaaGreat
open Go.RowKit
set_option linter.unusedVariables false
/-! ### A message is taken out -/
def setM (cs : Array Value) : Nat → List Value → Array Value
  | _, [] => cs
  | o, v :: vs => setM (cs.setIfInBounds o v) (o + 1) vs
theorem setM_toList (vs : List Value) : ∀ (cs : Array Value) (o : Nat), o + vs.length ≤ cs.size → (setM cs o vs).toList = cs.toList.take o ++ vs ++ cs.toList.drop (o + vs.length) := by
  induction vs with
  | nil => intro cs o h; simp [setM]
  | cons v vs ih =>
    intro cs o h
    simp only [List.length_cons] at h
    rw [setM, ih _ _ (by simp; omega)]
    have h1 : (cs.setIfInBounds o v).toList = cs.toList.set o v := by simp
    rw [h1]
    have hlt : o < cs.toList.length := by simp; omega
    rw [List.drop_set_of_lt (by omega), List.take_set, List.length_cons]
    have h2 : (cs.toList.take (o + 1)).set o v = cs.toList.take o ++ [v] := by
      rw [List.take_succ_eq_append_getElem hlt, List.set_append_right _ _ (by rw [List.length_take]; omega)]
      have : o - (List.take o cs.toList).length = 0 := by rw [List.length_take]; omega
      rw [this]
      rfl
    rw [h2, show o + 1 + vs.length = o + (vs.length + 1) by omega]
    simp
theorem setM_size (vs : List Value) : ∀ (cs : Array Value) (o : Nat), (setM cs o vs).size = cs.size := by
  induction vs with
  | nil => intro cs o; rfl
  | cons v vs ih => intro cs o; rw [setM, ih]; simp
theorem blk_setCells {F : Nat} {t : TypeId} (vs : List Value) : ∀ (o : Nat) (w : World) (cs : Array Value), w.heap[F]? = some (.cells cs t) → (w.setCells F o vs).heap[F]? = some (.cells (setM cs o vs) t) := by
  induction vs with
  | nil => intro o w cs h; exact h
  | cons v vs ih => intro o w cs h; exact ih (o + 1) _ _ (blk_set h v)
theorem chg_setCells {S : List Nat} {F : Nat} (hF : F ∈ S) (vs : List Value) : ∀ (o : Nat) {a w : World}, Chg S a w → Chg S a (w.setCells F o vs) := by
  induction vs with
  | nil => intro o a w h; exact h
  | cons v vs ih => intro o a w h; exact ih (o + 1) (h.setCell (.inl hF) o v)
abbrev zMsg : List Value := [.int .i64 0, .int .i64 0, .int .i64 0, .int .i64 0, .int .i64 0, .int .i64 0, .int .i64 0, .bool false, .slice none 0 0]
theorem run_clear_msg (w : World) (ty : TypeId) (b o c : Nat) (hc : ∀ j, j < 9 → (w.cell? ⟨b, o + j, none⟩).isSome = true) (hf : ∀ j, j < 9 → w.frozen? ⟨b, o + j, none⟩ = false) :
    (Builtin.clear_ #[55] ty #[.slice (some ⟨b, o, none⟩) 1 c]).run Tryz.prog w = .ok (.tuple #[]) (w.setCells b o zMsg) := by
  have hv : (zeroValue 70).run Tryz.prog w = .ok (.agg #[.int .i64 0, .int .i64 0, .int .i64 0, .int .i64 0, .int .i64 0, .int .i64 0, .int .i64 0, .bool false, .slice none 0 0]) w := by kernel_rfl
  have hst := run_storeCells_cells (P := Tryz.prog) b o zMsg 0 w (by simpa using hc) (by simpa using hf) (by intro v hv'; simp only [zMsg, List.mem_cons, List.not_mem_nil, or_false] at hv'; rcases hv' with rfl | rfl | rfl | rfl | rfl | rfl | rfl | rfl | rfl <;> rfl)
  simp only [Nat.add_zero] at hst
  have hz : (Builtin.zeroCells (Value.agg #[.int .i64 0, .int .i64 0, .int .i64 0, .int .i64 0, .int .i64 0, .int .i64 0, .int .i64 0, .bool false, .slice none 0 0]).cells 1).toList = zMsg := by kernel_rfl
  simp [Builtin.clear_, run_underlying Tryz.underlying55, hv, hz, hst]
set_option maxHeartbeats 1600000 in
theorem cloneM_any (a : Option Addr) (cap n : Nat) (xs : List Value) (w : World) (hr : RowAt w a xs) (hn0 : a = none → n = 0) (hL : xs.length = n * 9) (h1 : ∀ u ∈ xs, u.oneCell' = true) (hs : n ≤ 1000000) :
    Calls Tryz.prog 70 #[.slice a n cap] w (RetRow 70 9 n xs w) := by
  have q := fun (w : World) (a : Option Addr) (n c n' c' : Nat) => Lib.run_eql_slice_nil w 55 70 a n c n' c' Tryz.underlying55
  cases a with
  | none =>
    have h0 := hn0 rfl
    subst h0
    obtain rfl := List.eq_nil_of_length_eq_zero (by simpa using hL)
    clear hr hL
    go_enter Tryz.func70, Tryz.ntmps70
    go_wp2
    go_ret
    exact ⟨none, 0, rfl, World.ownsRow_nil _ _ _ _, below0 _⟩
  | some p =>
    have HR := Lib.hid hr
    have HL := Lib.hid hL
    clear hr hL
    go_enter Tryz.func70, Tryz.ntmps70
    go_wp2_with (at_builtin; refine wpList_append_row rfl (.tmp 5) (.tmp 6) rfl elemM w.heap.size _ 0 [] (by rfl) (World.ownsRow_made w #[] 0 (Nat.le_refl _) (Nat.zero_le _) (by simp)) (some p) n cap xs (by rfl) HL.out (HR.out.alloc _) h1 (by unfold maxLen; omega) (by omega) (by simp) (fun h => by cases h) ?_; intro a1 c1 w1 hown hg hat)
    simp only [Nat.zero_add, List.nil_append] at hown
    go_ret
    exact ⟨a1, c1, rfl, hown, Below.appended (below1 w _) (World.ownsRow_made (size := 9) w #[] 0 (Nat.le_refl _) (Nat.zero_le _) (by simp)) hg (by simp) (Nat.le_refl _)⟩
/-- A row of its own, one element taken out. -/
def RetDel (b cap n : Nat) (xs : List Value) (w : World) (en : Ending) (w' : World) : Prop := en = .returned (.slice (some ⟨b, 0, none⟩) n cap) ∧ w'.ownsRow b 70 9 (.slice (some ⟨b, 0, none⟩) n cap) n xs ∧ Chg [b] w w'
set_option maxRecDepth 100000 in
set_option maxHeartbeats 6400000 in
theorem deleteM_any (b cap n i : Nat) (xs : List Value) (w : World) (ho : w.ownsRow b 70 9 (.slice (some ⟨b, 0, none⟩) n cap) n xs) (h1 : ∀ u ∈ xs, u.oneCell' = true) (hi : i < n) (hs : n ≤ 1000000) :
    Calls Tryz.prog 69 #[.slice (some ⟨b, 0, none⟩) n cap, .int .i64 (i : Int), .int .i64 ((i : Int) + 1)] w (RetDel b cap (n - 1) (xs.take (i * 9) ++ xs.drop ((i + 1) * 9)) w) := by
  obtain ⟨hxl, h0 | ⟨g, c', cur, hv, hg, hh, hnc, hcm, hsz, htk⟩⟩ := ho
  · cases h0.1
  injection hv with e1 _ e3
  injection e1 with e1
  injection e1 with e1
  subst e1 e3
  obtain ⟨news, hnews⟩ : ∃ news, news = xs.drop ((i + 1) * 9) := ⟨_, rfl⟩
  have hlen : news.length = (n - (i + 1)) * 9 := by rw [hnews, List.length_drop, hxl]; omega
  have hxs : ∀ t u, xs[t]? = some u → cur[t]? = some u := fun t u hu => by
    rw [← htk, List.getElem?_take] at hu
    split at hu
    · simpa using hu
    · cases hu
  obtain ⟨A, hA, hsrc⟩ : ∃ A : Addr, (if cap = i + 1 then some (⟨b, 0, none⟩ : Addr) else some ⟨b, (i + 1) * 9, none⟩) = some A ∧ Hid (∀ t u, news[t]? = some u → w.drew.cell? (A.add t) = some u) := by
    by_cases h : cap = i + 1
    · refine ⟨⟨b, 0, none⟩, by simp [h], fun t u hu => ?_⟩
      have h0 : news.length = 0 := by rw [hlen]; omega
      rw [List.length_eq_zero_iff.1 h0] at hu
      simp at hu
    · refine ⟨⟨b, (i + 1) * 9, none⟩, by simp [h], fun t u hu => ?_⟩
      rw [hnews, List.getElem?_drop] at hu
      have := blk_cell hh ((i + 1) * 9 + t)
      rw [Addr.add_lit]
      exact this.trans (hxs _ u hu)
  have s1 : Hid (news.length = (n - (i + 1)) * 9) := hlen
  have s2 : Hid (∀ u ∈ news, u.oneCell' = true) := fun u hu => h1 u (by rw [hnews] at hu; exact List.mem_of_mem_drop hu)
  have s3 : Hid (∀ t, t < news.length → (w.drew.cell? ⟨b, 0 + i * 9 + t, none⟩).isSome = true ∧ w.drew.frozen? ⟨b, 0 + i * 9 + t, none⟩ = false) := by
    intro t ht
    rw [hlen] at ht
    refine ⟨?_, blk_frozen hh _⟩
    show (w.cell? ⟨b, 0 + i * 9 + t, none⟩).isSome = true
    rw [blk_cell hh]
    simp
    omega
  obtain ⟨W1, hW1⟩ : ∃ W1, W1 = w.drew.setCells b (0 + i * 9) news := ⟨_, rfl⟩
  have hB1 : W1.heap[b]? = some (.cells (setM cur (i * 9) news) 70) := by
    rw [hW1, Nat.zero_add]
    exact blk_setCells news (i * 9) w.drew cur hh
  have hC1 : Chg [b] w W1 := by rw [hW1]; exact chg_setCells (by simp) news _ (Chg.refl _ _).drew
  have hcl : ∀ ty, (Builtin.clear_ #[55] ty #[.slice (some ⟨b, (n - 1) * 9, none⟩) 1 (cap - (n - 1))]).run Tryz.prog W1 = .ok (.tuple #[]) (W1.setCells b ((n - 1) * 9) zMsg) := fun ty =>
    run_clear_msg W1 ty b ((n - 1) * 9) _ (fun j hj => by rw [blk_cell hB1]; simp [setM_size]; omega) (fun j hj => blk_frozen hB1 _)
  have hB2 := blk_setCells zMsg ((n - 1) * 9) W1 _ hB1
  have hC2 : Chg [b] w (W1.setCells b ((n - 1) * 9) zMsg) := chg_setCells (by simp) zMsg _ hC1
  have hfin : (W1.setCells b ((n - 1) * 9) zMsg).ownsRow b 70 9 (.slice (some ⟨b, 0, none⟩) (n - 1) cap) (n - 1) (xs.take (i * 9) ++ xs.drop ((i + 1) * 9)) := by
    refine ⟨by rw [List.length_append, List.length_take, List.length_drop, hxl]; omega, .inr ⟨b, cap, _, rfl, Nat.le_refl _, hB2, by omega, hcm, by rw [setM_size, setM_size]; exact hsz, ?_⟩⟩
    rw [setM_toList _ _ _ (by rw [setM_size]; simp; omega), List.append_assoc, List.take_append_of_le_length (by rw [List.length_take, Array.length_toList, setM_size]; omega), List.take_take, Nat.min_self, setM_toList _ _ _ (by omega)]
    have e2 : (cur.toList.take (i * 9)) = xs.take (i * 9) := by rw [← htk, List.take_take, Nat.min_eq_left (by omega)]
    rw [e2, ← hnews, List.take_append_of_le_length (by rw [List.length_append, List.length_take, hxl, hlen]; omega), List.take_of_length_le (by rw [List.length_append, List.length_take, hxl, hlen]; omega)]
  have hW : Hid (W1 = w.drew.setCells b (0 + i * 9) news) := hW1
  have HF := Lib.hid hfin
  have HC := Lib.hid hC2
  have hlt : (i : Int) < (i : Int) + 1 := by omega
  have hi0 : (0 : Int) ≤ (i : Int) := by omega
  have hin : (i : Int) + 1 ≤ (n : Int) := by omega
  have hne : ((i : Int) == (i : Int) + 1) = false := by simp; omega
  clear hW1 hB1 hC1 hB2 hC2 hfin hh hsz htk hxs hnews hlen hxl
  go_enter Tryz.func69, Tryz.ntmps69
  have hs1 : ∀ W, (Instr.slice 55 (.slice (some ⟨b, 0, none⟩) n cap) none (some (.int .i64 (i : Int))) none).run Tryz.prog W = .ok (.slice (some ⟨b, 0, none⟩) i cap) W := fun W => slice_toS (P := Tryz.prog) elemM (some ⟨b, 0, none⟩) n cap i (by omega) W
  have hs2 : ∀ W, (Instr.slice 55 (.slice (some ⟨b, 0, none⟩) n cap) (some (.int .i64 ((i : Int) + 1))) none none).run Tryz.prog W = .ok (.slice (some A) (n - (i + 1)) (cap - (i + 1))) W := fun W => by
    have := slice_fromS (P := Tryz.prog) elemM (some ⟨b, 0, none⟩) n cap (i + 1) (by omega) W
    rw [show (((i + 1 : Nat)) : Int) = (i : Int) + 1 by omega] at this
    rw [this, ← hA]
    unfold cutS
    split <;> simp [Addr.add]
  obtain ⟨i0, hi0', hz0, hz1, hz2⟩ := info_parts elemM.info
  go_upto_region 5 with fail
  go_region_law (refine step_append_room rfl (.tmp 22) (.tmp 25) 55 rfl 70 i0 9 Tryz.underlying55 hi0' hz1 b 0 i cap (by rfl) A (n - (i + 1)) (cap - (i + 1)) news (by rfl) s1.out hsrc.out s2.out (by omega) s3.out ?_; rw [← hW.out])
  have hcl2 : ∀ ty, (Builtin.clear_ #[55] ty #[.slice (some ⟨b, (i + (n - (i + 1))) * 9, none⟩) (n - (i + (n - (i + 1)))) (cap - (i + (n - (i + 1))))]).run Tryz.prog W1 = .ok (.tuple #[]) (W1.setCells b ((n - 1) * 9) zMsg) := fun ty => by
    have e1 : i + (n - (i + 1)) = n - 1 := by omega
    have e2 : n - (n - 1) = 1 := by omega
    rw [e1, e2]
    exact hcl ty
  clear hcl
  go_wp2
  have e1 : i + (n - (i + 1)) = n - 1 := by omega
  go_ret
  rw [e1]
  exact ⟨rfl, HF.out, HC.out⟩
end Go.Proofs.YthjdbmfobmnnlaaGreat
