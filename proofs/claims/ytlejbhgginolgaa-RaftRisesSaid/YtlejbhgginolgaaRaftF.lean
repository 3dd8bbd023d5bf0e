/-
  What a member says to each of the others.
-/
import Derived.Test.YtlejbhgginolgaaRaftE
namespace Go.Proofs.Ytlejbhgginolgaa
open Go.RowKit
set_option linter.unusedVariables false
theorem toAll_le (id : Int) (f : Int → Ms) (k : Nat) : (Mb.toAll id f k).length ≤ k := by
  induction k with
  | zero => exact Nat.le_refl _
  | succ k ih =>
    rw [Mb.toAll, List.length_append]
    split
    · simp; omega
    · simp; omega
/-- One message more, behind a block that was made and an append. -/
theorem MsAt.snoc {w w1 w2 : World} {base : Nat} {A A2 : Option Addr} {c c2 : Nat} {ms : List Ms} {x : Ms} {sl : List (Option Addr × Nat)} {a1 : Option Addr} {cx : Nat} (h : MsAt w base A c ms sl) (hx : w.ownsRow base 47 7 (.slice a1 x.ents.length cx) x.ents.length (ensV x.ents)) (hb : Below w.heap.size w w1)
    (hown : w2.ownsRow base 37 9 (.slice A2 (ms.length + 1) c2) (ms.length + 1) (msV ms sl ++ x.cells a1 cx)) (hg : w1.grownBy w2 (Value.slice A ms.length c).ownBlock) : MsAt w2 base A2 c2 (ms ++ [x]) (sl ++ [(a1, cx)]) := by
  have hl := h.len
  have hkeep : ∀ (s : Option Addr × Nat) (es : List En), w.ownsRow base 47 7 (.slice s.1 es.length s.2) es.length (ensV es) → w2.ownsRow base 47 7 (.slice s.1 es.length s.2) es.length (ensV es) := fun s es hs => by
    have hs1 := own_below hs hb
    refine ⟨hs1.1, ?_⟩
    rcases hs1.2 with h2 | ⟨g, cap, cur, hv, hgb, hh, r⟩
    · exact .inl h2
    · refine .inr ⟨g, cap, cur, hv, hgb, ?_, r⟩
      rw [hg.block g (blk_lt hh) ?_]
      · exact hh
      · intro e
        have hm := own_below h.own hb
        rcases hm.2 with ⟨h3, _⟩ | ⟨g', cap', cur', hv', _, hh', _⟩
        · rw [h3] at e; cases e
        · rw [hv'] at e
          have e2 : g = g' := by simpa [Value.ownBlock] using e
          subst e2
          rw [hh] at hh'
          injection hh' with hh'
          injection hh' with _ hh'
          exact absurd hh' (by decide)
  refine ⟨by rw [List.length_append, List.length_singleton, msV_snoc hl]; exact hown, by simp [hl], fun k hk => ?_⟩
  rw [List.length_append, List.length_singleton] at hk
  by_cases hk2 : k < ms.length
  · have := hkeep _ _ (h.ents k hk2)
    rw [List.getElem_append_left hk2, List.getD_eq_getElem?_getD, List.getElem?_append_left (by omega), ← List.getD_eq_getElem?_getD]
    exact this
  · obtain rfl : k = ms.length := by omega
    have := hkeep (a1, cx) _ hx
    rw [List.getElem_append_right (Nat.le_refl _), List.getD_eq_getElem?_getD, List.getElem?_append_right (by omega)]
    simpa [hl] using this
section
variable {w : World} {b : Nat} {a : MA} {m : Mb}
set_option maxRecDepth 100000 in
set_option maxHeartbeats 6400000 in
theorem adds_any (h : MAt w b a m) (hok : MbOk m) : Calls Try.prog 27 #[.pointer (some ⟨b, 0, none⟩), .func (.func 33) #[.pointer (some ⟨b, 0, none⟩)] #[]] w (RetMs (Mb.toAll m.id m.addn m.prog.length) w) := by
  have n16 := hok.n16
  have HFN : Hid (∀ W, Below w.heap.size w W → ∀ j : Nat, j < m.prog.length → Calls Try.prog 33 #[.pointer (some ⟨b, 0, none⟩), .int .i64 ((j : Int) + 1)] W (RetM (m.addn ((j : Int) + 1)) W)) := fun W hW j hj => addn_at (h.below hW) hok j hj
  have HO := Lib.hid h
  obtain ⟨c0, c1, c2, c3, c4, c5, c6, c7, c8, c9, hlt⟩ := box10 h.blk
  generalize m.addn = f at HFN ⊢
  go_enter Try.func27, Try.ntmps27
  go_wp2
  clear c0 c1 c2 c3 c4 c5 c6 c7 c8 c9 hlt
  go_loopw [5, 13] (fun v i wr => ∃ (k : Nat) (A : Option Addr) (c : Nat) (sl : List (Option Addr × Nat)), k ≤ m.prog.length ∧ i = .int .i64 (k : Int) ∧ v = .slice A (Mb.toAll m.id f k).length c ∧ MsAt wr w.heap.size A c (Mb.toAll m.id f k) sl ∧ Below w.heap.size w wr) (fun _ i _ => m.prog.length - (intOf i).toNat)
  case atStart => exact ⟨0, none, 0, [], by omega, rfl, rfl, MsAt.nil _ _, below0 _⟩
  case round =>
    obtain ⟨k, A, c, sl, hk, rfl, rfl, hms, hb⟩ := hrel
    have H1 := HO.out.below hb
    obtain ⟨c0, c1, c2, c3, c4, c5, c6, c7, c8, c9, hlt⟩ := box10 H1.blk
    by_cases hlt : k < m.prog.length
    · have hk0 : (0 : Int) ≤ (k : Int) := by omega
      have hk1 : (k : Int) < (m.prog.length : Int) := by omega
      have hk2 : (k : Int) ≤ 16 := by omega
      by_cases hid : (k : Int) + 1 = m.id
      · have hid1 : (((k : Int) + 1) != m.id) = false := by rw [hid]; simp
        have HT : Hid (Mb.toAll m.id f (k + 1) = Mb.toAll m.id f k) := by rw [Hid, Mb.toAll, if_pos hid, List.append_nil]
        clear hid
        go_wp2
        go_roundw
        case rel => exact ⟨k + 1, A, c, sl, by omega, by go_num, by rw [HT.out], by rw [HT.out]; exact hms, hb⟩
        case measure => simp [intOf]; omega
      · have hid1 : (((k : Int) + 1) != m.id) = true := by simpa using hid
        have HT : Hid (Mb.toAll m.id f (k + 1) = Mb.toAll m.id f k ++ [f ((k : Int) + 1)]) := by rw [Hid, Mb.toAll, if_neg hid]
        have HFK := Lib.hid (HFN.out wr hb k hlt)
        have HL : Hid ((Mb.toAll m.id f k).length ≤ k) := toAll_le _ _ _
        have hL1 : (Mb.toAll m.id f k).length ≤ 16 := by have := HL.out; omega
        clear hid
        generalize f ((k : Int) + 1) = x at HT HFK
        generalize Mb.toAll m.id f k = ms at HT HL hL1 hms
        have hs := hb.size
        go_wp2_with (first
          | (go_at_call 33; refine HFK.out.mono ?_; rintro e w1 ⟨a1, cx1, rfl, own1, hb1⟩; have hms1 := hms.below hb1; have hwA := hb.trans (hb1.mono hs); have HNEW : Hid (RowAt (w1.alloc (.cells #[.int .i64 x.kind, .int .i64 x.frm, .int .i64 x.dst, .int .i64 x.term, .int .i64 x.index, .int .i64 x.lterm, .int .i64 x.commit, .bool x.yes, .slice a1 x.ents.length cx1] 37)) (some ⟨w1.heap.size, 0, none⟩) (x.cells a1 cx1)) := RowAt.new w1 #[.int .i64 x.kind, .int .i64 x.frm, .int .i64 x.dst, .int .i64 x.term, .int .i64 x.index, .int .i64 x.lterm, .int .i64 x.commit, .bool x.yes, .slice a1 x.ents.length cx1] 37; have hs1 := hwA.size)
          | (at_builtin; refine wpList_append_row rfl (.tmp 24) (.tmp 28) rfl elemM w.heap.size _ ms.length _ (by rfl) (own_below hms1.own (below1 w1 _)) (some ⟨w1.heap.size, 0, none⟩) 1 1 (x.cells a1 cx1) (by rfl) (by rfl) HNEW.out (msC_one x a1 cx1) (by unfold maxLen; omega) (by omega) (by simp; omega) (fun h => by cases h) ?_; intro A2 c2' w2 hown2 hg2 hat2; have hb2 := Below.appended (hwA.alloc hs1 (.cells #[.int .i64 x.kind, .int .i64 x.frm, .int .i64 x.dst, .int .i64 x.term, .int .i64 x.index, .int .i64 x.lterm, .int .i64 x.commit, .bool x.yes, .slice a1 x.ents.length cx1] 37)) (own_below hms1.own (below1 w1 _)) hg2 (by simp; omega) (Nat.le_refl _)))
        have hms2 : MsAt w2 w.heap.size A2 c2' (ms ++ [x]) (sl ++ [(a1, cx1)]) := MsAt.snoc hms1 (own_base own1 hs) (below1 w1 _) hown2 hg2
        go_roundw
        case rel => exact ⟨k + 1, A2, c2', sl ++ [(a1, cx1)], by omega, by go_num, by rw [HT.out]; simp, by rw [HT.out]; exact hms2, hb2⟩
        case measure => simp [intOf]; omega
    · have hk' : k = m.prog.length := by omega
      subst hk'
      go_wp2
      go_ret
      exact ⟨A, c, sl, rfl, hms, hb⟩
set_option maxRecDepth 100000 in
set_option maxHeartbeats 6400000 in
theorem asks_any (h : MAt w b a m) (hok : MbOk m) (Q : Nat) (hQ : w.heap[Q]? = some (.cells #[.pointer (some ⟨b, 0, none⟩)] 28)) : Calls Try.prog 27 #[.pointer (some ⟨b, 0, none⟩), .func (.func 28) #[] #[.pointer (some ⟨Q, 0, none⟩)]] w (RetMs (Mb.toAll m.id m.ask m.prog.length) w) := by
  have n16 := hok.n16
  have HFN : Hid (∀ W, Below w.heap.size w W → ∀ j : Nat, j < m.prog.length → Calls Try.prog 28 #[.int .i64 ((j : Int) + 1), .pointer (some ⟨Q, 0, none⟩)] W (RetM (m.ask ((j : Int) + 1)) W)) := fun W hW j hj => ask_at (h.below hW) Q (blk_keep hW hQ) _
  have HO := Lib.hid h
  obtain ⟨c0, c1, c2, c3, c4, c5, c6, c7, c8, c9, hlt⟩ := box10 h.blk
  generalize m.ask = f at HFN ⊢
  go_enter Try.func27, Try.ntmps27
  go_wp2
  clear c0 c1 c2 c3 c4 c5 c6 c7 c8 c9 hlt
  go_loopw [5, 13] (fun v i wr => ∃ (k : Nat) (A : Option Addr) (c : Nat) (sl : List (Option Addr × Nat)), k ≤ m.prog.length ∧ i = .int .i64 (k : Int) ∧ v = .slice A (Mb.toAll m.id f k).length c ∧ MsAt wr w.heap.size A c (Mb.toAll m.id f k) sl ∧ Below w.heap.size w wr) (fun _ i _ => m.prog.length - (intOf i).toNat)
  case atStart => exact ⟨0, none, 0, [], by omega, rfl, rfl, MsAt.nil _ _, below0 _⟩
  case round =>
    obtain ⟨k, A, c, sl, hk, rfl, rfl, hms, hb⟩ := hrel
    have H1 := HO.out.below hb
    obtain ⟨c0, c1, c2, c3, c4, c5, c6, c7, c8, c9, hlt⟩ := box10 H1.blk
    by_cases hlt : k < m.prog.length
    · have hk0 : (0 : Int) ≤ (k : Int) := by omega
      have hk1 : (k : Int) < (m.prog.length : Int) := by omega
      have hk2 : (k : Int) ≤ 16 := by omega
      by_cases hid : (k : Int) + 1 = m.id
      · have hid1 : (((k : Int) + 1) != m.id) = false := by rw [hid]; simp
        have HT : Hid (Mb.toAll m.id f (k + 1) = Mb.toAll m.id f k) := by rw [Hid, Mb.toAll, if_pos hid, List.append_nil]
        clear hid
        go_wp2
        go_roundw
        case rel => exact ⟨k + 1, A, c, sl, by omega, by go_num, by rw [HT.out], by rw [HT.out]; exact hms, hb⟩
        case measure => simp [intOf]; omega
      · have hid1 : (((k : Int) + 1) != m.id) = true := by simpa using hid
        have HT : Hid (Mb.toAll m.id f (k + 1) = Mb.toAll m.id f k ++ [f ((k : Int) + 1)]) := by rw [Hid, Mb.toAll, if_neg hid]
        have HFK := Lib.hid (HFN.out wr hb k hlt)
        have HL : Hid ((Mb.toAll m.id f k).length ≤ k) := toAll_le _ _ _
        have hL1 : (Mb.toAll m.id f k).length ≤ 16 := by have := HL.out; omega
        clear hid
        generalize f ((k : Int) + 1) = x at HT HFK
        generalize Mb.toAll m.id f k = ms at HT HL hL1 hms
        have hs := hb.size
        go_wp2_with (first
          | (go_at_call 28; refine HFK.out.mono ?_; rintro e w1 ⟨a1, cx1, rfl, own1, hb1⟩; have hms1 := hms.below hb1; have hwA := hb.trans (hb1.mono hs); have HNEW : Hid (RowAt (w1.alloc (.cells #[.int .i64 x.kind, .int .i64 x.frm, .int .i64 x.dst, .int .i64 x.term, .int .i64 x.index, .int .i64 x.lterm, .int .i64 x.commit, .bool x.yes, .slice a1 x.ents.length cx1] 37)) (some ⟨w1.heap.size, 0, none⟩) (x.cells a1 cx1)) := RowAt.new w1 #[.int .i64 x.kind, .int .i64 x.frm, .int .i64 x.dst, .int .i64 x.term, .int .i64 x.index, .int .i64 x.lterm, .int .i64 x.commit, .bool x.yes, .slice a1 x.ents.length cx1] 37; have hs1 := hwA.size)
          | (at_builtin; refine wpList_append_row rfl (.tmp 24) (.tmp 28) rfl elemM w.heap.size _ ms.length _ (by rfl) (own_below hms1.own (below1 w1 _)) (some ⟨w1.heap.size, 0, none⟩) 1 1 (x.cells a1 cx1) (by rfl) (by rfl) HNEW.out (msC_one x a1 cx1) (by unfold maxLen; omega) (by omega) (by simp; omega) (fun h => by cases h) ?_; intro A2 c2' w2 hown2 hg2 hat2; have hb2 := Below.appended (hwA.alloc hs1 (.cells #[.int .i64 x.kind, .int .i64 x.frm, .int .i64 x.dst, .int .i64 x.term, .int .i64 x.index, .int .i64 x.lterm, .int .i64 x.commit, .bool x.yes, .slice a1 x.ents.length cx1] 37)) (own_below hms1.own (below1 w1 _)) hg2 (by simp; omega) (Nat.le_refl _)))
        have hms2 : MsAt w2 w.heap.size A2 c2' (ms ++ [x]) (sl ++ [(a1, cx1)]) := MsAt.snoc hms1 (own_base own1 hs) (below1 w1 _) hown2 hg2
        go_roundw
        case rel => exact ⟨k + 1, A2, c2', sl ++ [(a1, cx1)], by omega, by go_num, by rw [HT.out]; simp, by rw [HT.out]; exact hms2, hb2⟩
        case measure => simp [intOf]; omega
    · have hk' : k = m.prog.length := by omega
      subst hk'
      go_wp2
      go_ret
      exact ⟨A, c, sl, rfl, hms, hb⟩
end
end Go.Proofs.Ytlejbhgginolgaa
