/-
  Layer 4: the chapter's examples.
-/
import Derived.Test.YtifbcdjabdfeeaaEntriesK
namespace Go.Proofs.Ytifbcdjabdfeeaa
open Go.RowKit
set_option linter.unusedVariables false
/-- Entries of some terms. -/
def ofL (ns : List Int) : List En := ns.map fun n => (n, 0, 0, 0, 0, 0, 0)
theorem ofL_go {ns : List Int} {k : Nat} (h : k < ns.length) : ensV (ofL (ns.take (k + 1))) = ensV (ofL (ns.take k)) ++ [.int .i64 ns[k], .int .i64 0, .int .i64 0, .int .i64 0, .int .i64 0, .int .i64 0, .int .i64 0] := by
  unfold ofL
  rw [List.take_add_one, List.getElem?_eq_getElem h, List.map_append, ensV_append]
  rfl
theorem ints_at {w : World} {a : Option Addr} {ns : List Int} (hr : RowAt w a (ns.map fun n => Value.int .i64 n)) {k : Nat} (hk : k < ns.length) : ∃ b off, a = some ⟨b, off, none⟩ ∧ b < w.heap.size ∧ w.cell? ⟨b, off + k, none⟩ = some (.int .i64 ns[k]) :=
  RowAt.at hr (by rw [List.getElem?_map, List.getElem?_eq_getElem hk]; rfl)
set_option maxHeartbeats 3200000 in
theorem of_any (a : Option Addr) (cap : Nat) (ns : List Int) (w : World) (hr : RowAt w a (ns.map fun n => Value.int .i64 n)) (hs : ns.length ≤ 1000) :
    Calls Try.prog 42 #[.slice a ns.length cap] w (RetRow 55 7 ns.length (ensV (ofL ns)) w) := by
  have HR := Lib.hid hr
  clear hr
  go_enter Try.func42, Try.ntmps42
  go_wp2
  go_loopw [3, 4] (fun o c wr => ∃ (k : Nat) (ao : Option Addr) (co : Nat), k ≤ ns.length ∧ c = .int .i64 k ∧ o = .slice ao k co ∧ wr.ownsRow w.heap.size 55 7 (.slice ao k co) k (ensV (ofL (ns.take k))) ∧ Below w.heap.size w wr) (fun _ c _ => ns.length - (intOf c).toNat)
  case atStart => exact ⟨0, none, 0, by omega, rfl, rfl, World.ownsRow_nil _ _ _ _, below0 _⟩
  case round =>
    obtain ⟨k, ao, co, hk, rfl, rfl, hown, hb⟩ := hrel
    by_cases hlt : k < ns.length
    · obtain ⟨ib, ioff, rfl, hilt, hc⟩ := ints_at (HR.out.below hb) hlt
      have HGO := Lib.hid (ofL_go hlt)
      have HEl : Hid ((ensV (ofL (ns.take k))).length = k * 7) := by rw [Hid, ensV_length, ofL, List.length_map, List.length_take, Nat.min_eq_left hk]
      generalize (ns[k]'hlt) = X at hc HGO
      have hk0 : (0 : Int) ≤ (k : Int) := by omega
      have hk1 : (k : Int) < (ns.length : Int) := by omega
      have hbs := hb.size
      go_wp2_with (at_builtin; refine wpList_append_row rfl (.tmp 11) (.tmp 17) rfl elemE w.heap.size (.slice ao k co) k (ensV (ofL (ns.take k))) (by rfl) (own_below hown (below1 _ _)) (some ⟨wr.heap.size, 0, none⟩) 1 1 [.int .i64 X, .int .i64 0, .int .i64 0, .int .i64 0, .int .i64 0, .int .i64 0, .int .i64 0] (by rfl) rfl (RowAt.new wr #[.int .i64 X, .int .i64 0, .int .i64 0, .int .i64 0, .int .i64 0, .int .i64 0, .int .i64 0] 55) (enV_one7 X 0 0 0 0 0 0) (by unfold maxLen; omega) (by omega) (by simp; omega) (fun h => by cases h) ?_; intro a7 c7 w7 hown7 hg7 hat7)
      have ho := own_below hown (below1 wr (.cells #[.int .i64 X, .int .i64 0, .int .i64 0, .int .i64 0, .int .i64 0, .int .i64 0, .int .i64 0] 55))
      have hw7 := Below.appended (hb.alloc hb.size _) ho hg7 ((hb.alloc hb.size _).size) (Nat.le_refl _)
      rw [← HGO.out] at hown7
      go_wp2
      go_roundw
      case rel => exact ⟨k + 1, a7, c7, by omega, by go_num, rfl, hown7, hw7⟩
      case measure => simp [intOf]; omega
    · have hek : k = ns.length := by omega
      have HEK := Lib.hid hek
      clear hek
      go_wp2
      go_ret
      rw [HEK.out, List.take_length] at hown
      exact ⟨ao, co, by rw [HEK.out]; rfl, hown, hb⟩
theorem row_new2 (w : World) (o : Obj) (cs : Array Value) (t : TypeId) : RowAt ((w.alloc o).alloc (.cells cs t)) (some ⟨w.heap.size + 1, 0, none⟩) cs.toList := by
  have := RowAt.new (w.alloc o) cs t
  simpa using this
theorem blk_drawn {w : World} {F : Nat} {o : Obj} (h : w.heap[F]? = some o) : w.drew.heap[F]? = some o := h
theorem new_ne {W : World} {X : Nat} {o : Obj} {a : Option Addr} (hX : W.heap[X]? = some o) (hf : ∀ b o, a = some ⟨b, o, none⟩ → W.heap.size ≤ b) : ∀ b o, a = some ⟨b, o, none⟩ → b ≠ X := fun b o h e => by
  have := hf b o h
  have := blk_lt hX
  omega
theorem logIn_set3 {w : World} {a : Option Addr} {cap : Nat} {es : List En} {X : Nat} {x y z : Value} (h : LogIn w a cap es) (hA : ∀ b o, a = some ⟨b, o, none⟩ → b ≠ X) : LogIn (set3 w X x y z) a cap es := by
  refine ⟨?_, h.cap, h.none_, h.max⟩
  exact row_far (row_far (row_far h.row hA) hA) hA
def exL : List En := [(1, 0, 0, 0, 0, 0, 0), (1, 0, 0, 0, 0, 0, 0), (2, 0, 0, 0, 0, 0, 0)]
def exM : List En := [(1, 0, 0, 0, 0, 0, 0), (3, 0, 0, 0, 0, 0, 0)]
def exR : List En := [(1, 0, 0, 0, 0, 0, 0), (1, 0, 0, 0, 0, 0, 0), (3, 0, 0, 0, 0, 0, 0)]
set_option maxRecDepth 100000 in
theorem ex1 : addF 0 0 exL 1 1 exM = (0, 0, exR, 0) := by decide
set_option maxRecDepth 100000 in
theorem ex2 : addF 0 0 exL 2 2 [] = (0, 0, [], 8) := by decide
set_option maxRecDepth 100000 in
theorem ex3 : addF 0 0 exL 5 2 [] = (0, 0, [], 10) := by decide
set_option maxRecDepth 100000 in
set_option maxHeartbeats 3200000 in
theorem entriesAwake_any (w : World) : Calls Try.prog 24 #[] w fun e w' => e = .returned (.bool true) ∧ Below w.heap.size w w' := by
  have HO1 : Hid (∀ W a, RowAt W a [.int .i64 1, .int .i64 1, .int .i64 2] → Calls Try.prog 42 #[.slice a 3 3] W (RetRow 55 7 3 (ensV exL) W)) := fun W a h => of_any a 3 [1, 1, 2] W h (by decide)
  have HO2 : Hid (∀ W a, RowAt W a [.int .i64 1, .int .i64 3] → Calls Try.prog 42 #[.slice a 2 2] W (RetRow 55 7 2 (ensV exM) W)) := fun W a h => of_any a 2 [1, 3] W h (by decide)
  have HA1 : Hid (∀ W a c a' c', LogIn W a c exL → LogIn W a' c' exM → Calls Try.prog 25 #[.agg #[.int .i64 0, .int .i64 0, .slice a 3 c], .int .i64 1, .int .i64 1, .slice a' 2 c'] W (RetLog (0, 0, exR, 0) W)) := fun W a c a' c' h h' => by
    have := add_any 0 0 a c exL 1 1 a' c' exM W h h' (by decide)
    rwa [ex1] at this
  have HA2 : Hid (∀ W a c, LogIn W a c exL → Calls Try.prog 25 #[.agg #[.int .i64 0, .int .i64 0, .slice a 3 c], .int .i64 2, .int .i64 2, .slice none 0 0] W (RetLog (0, 0, [], 8) W)) := fun W a c h => by
    have := add_any 0 0 a c exL 2 2 none 0 [] W h (LogIn.zero W) (by decide)
    rwa [ex2] at this
  have HA3 : Hid (∀ W a c, LogIn W a c exL → Calls Try.prog 25 #[.agg #[.int .i64 0, .int .i64 0, .slice a 3 c], .int .i64 5, .int .i64 2, .slice none 0 0] W (RetLog (0, 0, [], 10) W)) := fun W a c h => by
    have := add_any 0 0 a c exL 5 2 none 0 [] W h (LogIn.zero W) (by decide)
    rwa [ex3] at this
  go_enter Try.func24, Try.ntmps24
  go_wp2_with (go_at_call 42; refine (HO1.out _ _ (RowAt.new w #[.int .i64 1, .int .i64 1, .int .i64 2] 3)).mono ?_; rintro e w1 ⟨a1, c1, rfl, hown1, hb1⟩; have hl1 : LogIn w1 a1 c1 exL := LogIn.of_own hown1; have hw1 := alloc_below hb1)
  have gF := blk_new w1 (.cells #[.int .i64 0, .int .i64 0, .slice a1 3 c1] 26)
  obtain ⟨fc0, fc1, fc2, _, _, _, flt⟩ := box3 gF
  have hl2 := hl1.below (below1 w1 (.cells #[.int .i64 0, .int .i64 0, .slice a1 3 c1] 26))
  replace hw1 := hw1.alloc hw1.size (.cells #[.int .i64 0, .int .i64 0, .slice a1 3 c1] 26)
  clear hl1 hown1
  generalize hF : w1.heap.size = F at *
  generalize w1.alloc (.cells #[.int .i64 0, .int .i64 0, .slice a1 3 c1] 26) = wF at *
  clear hF
  go_upto_region 2 with fail
  go_cut [2, 3] (fun p q wx => ∃ X a3 c3, p = .pointer (some ⟨X, 0, none⟩) ∧ q = .int .i64 0 ∧ wx.heap[X]? = some (.cells #[.int .i64 0, .int .i64 0, .slice a3 3 c3] 26) ∧ LogIn wx a3 c3 exR ∧ Below wF.heap.size wF wx)
  case first =>
    go_region_held3 (fun W => W.cell? ⟨F, 0, none⟩ = some (.int .i64 0) ∧ W.cell? ⟨F, 1, none⟩ = some (.int .i64 0) ∧ W.cell? ⟨F, 2, none⟩ = some (.slice a1 3 c1)) (first | exact ⟨z0, z1, z2⟩ | exact ⟨y0, y1, y2⟩ | exact ⟨fc0, fc1, fc2⟩ | exact hfar3 _ (by omega) _ _ _ | go_keep) (first
      | (go_at_call 42; refine (HO2.out _ _ (by first | exact RowAt.new _ _ _ | exact (RowAt.new _ _ _).alloc _ | exact row_new2 _ _ _ _)).mono ?_; rintro e w2 ⟨a2, c2, rfl, hown2, hb2⟩; have hb2F : Below wF.heap.size wF w2 := (by first | exact (below1 wF _).drew.trans (hb2.mono (below1 wF _).drew.size) | exact (below2 wF _ _).drew.trans (hb2.mono (below2 wF _ _).drew.size)); have hsz2 := hb2F.size; have y0 := ((bcell hb2F).1 _ _ flt).trans fc0; have y1 := ((bcell hb2F).1 _ _ flt).trans fc1; have y2 := ((bcell hb2F).1 _ _ flt).trans fc2; have hm2 : LogIn w2 a2 c2 exM := LogIn.of_own hown2; have hl3 := hl2.below hb2F; (try (have gX2 := blk_keep hb2 (blk_drawn (alloc2_fst wF (.cells #[.int .i64 0, .int .i64 0, .slice none 0 0] 26) (.cells #[.int .i64 1, .int .i64 3] 3))))); (try (have gX2 := blk_keep hb2 (blk_drawn (alloc2_snd wF (.cells #[.int .i64 1, .int .i64 3] 3) (.cells #[.int .i64 0, .int .i64 0, .slice none 0 0] 26))))))
      | (go_at_call 25; refine (HA1.out _ _ _ _ _ (by first | exact hl3 | exact hl3.below (below1 _ _)) (by first | exact hm2 | exact hm2.below (below1 _ _))).mono ?_; rintro e w3 ⟨a3, c3, rfl, hl4, hfr4, hb3⟩; have hb3F : Below wF.heap.size wF w3 := (by first | exact hb2F.trans (hb3.mono hb2F.size) | exact (hb2F.alloc hb2F.size _).trans (hb3.mono (hb2F.alloc hb2F.size _).size)); have hsz3 := hb3F.size; have z0 := ((bcell hb3F).1 _ _ flt).trans fc0; have z1 := ((bcell hb3F).1 _ _ flt).trans fc1; have z2 := ((bcell hb3F).1 _ _ flt).trans fc2; have gF3 := blk_keep hb3F gF; have hfar3 : ∀ X, F ≠ X → ∀ x y z, (set3 w3 X x y z).cell? ⟨F, 0, none⟩ = some (.int .i64 0) ∧ (set3 w3 X x y z).cell? ⟨F, 1, none⟩ = some (.int .i64 0) ∧ (set3 w3 X x y z).cell? ⟨F, 2, none⟩ = some (.slice a1 3 c1) := (fun X h x y z => by obtain ⟨p0, p1, p2, _⟩ := box3 (set3_far gF3 h x y z); exact ⟨p0, p1, p2⟩); (try (have gX3 := blk_keep hb3 gX2; have hnew := new_ne gX2 (hfr4 (by decide)); obtain ⟨xq0, xq1, xq2, xf0, xf1, xf2, xqlt⟩ := box3 gX3)); (try (have gX3 := blk_keep hb3 (blk_new w2 (.cells #[.int .i64 0, .int .i64 0, .slice none 0 0] 26)); have hnew := new_ne (blk_new w2 (.cells #[.int .i64 0, .int .i64 0, .slice none 0 0] 26)) (hfr4 (by decide)); obtain ⟨xq0, xq1, xq2, xf0, xf1, xf2, xqlt⟩ := box3 gX3))))
    all_goals (go_wp2_with fail; go_meet)
    all_goals (first
      | exact ⟨w3.heap.size, a3, c3, rfl, rfl, blk_new _ _, hl4.below (below1 _ _), hb3F.alloc hb3F.size _⟩
      | exact ⟨_, a3, c3, rfl, rfl, set3_blk gX3 _ _ _, logIn_set3 hl4 hnew, set3_below hb3F (by omega) _ _ _⟩)
  case rest =>
    obtain ⟨X, a3, c3, rfl, rfl, gX, hl4, hbx⟩ := hcut
    replace gF := blk_keep hbx gF
    have hl5 := hl2.below hbx
    replace hw1 := hw1.trans (hbx.mono hw1.size)
    clear fc0 fc1 fc2 hl2
    obtain ⟨fc0, fc1, fc2, _, _, _, flt2⟩ := box3 gF
    obtain ⟨g, off, rfl, hglt, e0, ex⟩ := entry_cells hl4.row (show 2 < exR.length by decide)
    clear ex
    replace e0 : wc.cell? ⟨g, off + 14, none⟩ = some (.int .i64 3) := e0
    obtain ⟨xc0, xc1, xc2, _, _, _, xlt⟩ := box3 gX
    go_wp2_with (first
      | (go_at_call 25; refine (HA3.out _ _ _ (hl6.below (below1 _ _))).mono ?_; rintro e w5 ⟨a5, c5, rfl, _, _, hb5⟩; replace gF := blk_keep hb5 (blk_alloc gF _); replace gX := blk_keep hb5 (blk_alloc gX _); have hbb := (below1 w4 _).trans (hb5.mono (below1 w4 _).size); replace hw1 := hw1.trans (hbb.mono hw1.size); replace e0 := ((bcell hbb).1 _ _ hglt4).trans e0; have hglt5 := Nat.lt_of_lt_of_le hglt4 hbb.size; obtain ⟨fc0, fc1, fc2, _, _, _, flt2⟩ := box3 gF; obtain ⟨xc0, xc1, xc2, _, _, _, xlt⟩ := box3 gX)
      | (go_at_call 25; refine (HA2.out _ _ _ hl5).mono ?_; rintro e w4 ⟨a4, c4, rfl, _, _, hb4⟩; replace gF := blk_keep hb4 gF; replace gX := blk_keep hb4 gX; have hl6 := hl5.below hb4; replace hw1 := hw1.trans (hb4.mono hw1.size); replace e0 := ((bcell hb4).1 _ _ hglt).trans e0; have hglt4 := Nat.lt_of_lt_of_le hglt hb4.size; obtain ⟨fc0, fc1, fc2, _, _, _, flt2⟩ := box3 gF; obtain ⟨xc0, xc1, xc2, _, _, _, xlt⟩ := box3 gX))
    go_ret
    exact ⟨rfl, hw1.alloc hw1.size _⟩
end Go.Proofs.Ytifbcdjabdfeeaa
