/-
  The law of what is settled.
-/
import Derived.Test.YtnljdkglncmfaaaGreatGrT
namespace Go.Proofs.YtnljdkglncmfaaaGreat
open Go.RowKit
set_option linter.unusedVariables false
/-- A group, and a slice of entries that lies apart from it. -/
structure Best (B : Nat) (w : World) (G : Nat) (L : GL) (g : Gr) (Y : List En) (a : Option Addr) (c : Nat) : Prop where
  g : GAt w G L g
  gb : ∀ x ∈ gall G L, B ≤ x
  y : w.ownsRow B 42 7 (.slice a Y.length c) Y.length (ensV Y)
  yg : ∀ x ∈ gall G L, x ∉ blkOf a
namespace Best
variable {B : Nat} {w w' : World} {G : Nat} {L L' : GL} {g g' : Gr} {Y : List En} {a : Option Addr} {c : Nat}
theorem below (r : Best B w G L g Y a c) (hb : Below w.heap.size w w') : Best B w' G L g Y a c := ⟨r.g.below hb, r.gb, own_below r.y hb, r.yg⟩
theorem step (r : Best B w G L g Y a c) (hB : B ≤ w.heap.size) (hg : GAt w' G L' g') (s : GStep w G L w' L') : Best B w' G L' g' Y a c := by
  refine ⟨hg, fun x hx => ?_, own_chg r.y s.chg fun x hx hc => r.yg x hc hx, fun x hx hc => ?_⟩
  · rcases s.sub x hx with q | q
    · exact r.gb x q
    · omega
  · rcases s.sub x hx with q | q
    · exact r.yg x q hc
    · have := (own_blk r.y x hc).2; omega
theorem new (r : Best B w G L g Y a c) (hB : B ≤ w.heap.size) {Z : List En} {a2 : Option Addr} {c2 : Nat} (hb : Below w.heap.size w w') (ho : w'.ownsRow w.heap.size 42 7 (.slice a2 Z.length c2) Z.length (ensV Z)) : Best B w' G L g Z a2 c2 := by
  refine ⟨r.g.below hb, r.gb, own_rebase ho fun x hx => Nat.le_trans hB (own_blk ho x hx).1, fun x hx hc => ?_⟩
  have h1 := (own_blk ho x hc).1
  have h2 := r.g.gltAll x hx
  omega
end Best
theorem take_min {es fs : List En} (h : es.take (min es.length fs.length) = fs.take (min es.length fs.length)) : (fs.length < es.length → es.take fs.length = fs.take fs.length) ∧ (¬ fs.length < es.length → es.take es.length = fs.take es.length) := by
  refine ⟨fun q => ?_, fun q => ?_⟩
  · rwa [Nat.min_eq_right (by omega)] at h
  · rwa [Nat.min_eq_left (by omega)] at h
theorem begins_any (a : Option Addr) (cap : Nat) (es : List En) (a' : Option Addr) (cap' : Nat) (fs : List En) (w : World) (hl : LogIn w a cap es) (hl' : LogIn w a' cap' fs) (hs : es.length ≤ 1000000) (hf : fs.length ≤ 1000000) (same : es.take (min es.length fs.length) = fs.take (min es.length fs.length)) :
    Calls Tryz.prog 18 #[.slice a es.length cap, .slice a' fs.length cap'] w fun e w' => e = .returned (.bool true) ∧ Below w.heap.size w w' := by
  obtain ⟨s1, s2⟩ := take_min same
  have HS : ∀ u : Nat, u ≤ es.length → u ≤ fs.length → es.take u = fs.take u → Hid (Calls Tryz.prog 16 #[.slice a u cap, .slice a' u cap'] w.drew fun e w' => e = .returned (.bool true) ∧ Below w.drew.heap.size w.drew w') := fun u h1 h2 h3 => by
    have e1 : (es.take u).length = u := by rw [List.length_take]; omega
    have e2 : (fs.take u).length = u := by rw [List.length_take]; omega
    have := same_any a cap (es.take u) a' cap' (fs.take u) w.drew (by have := hl.row.take (u * 7); rwa [ensV_take] at this) (by have := hl'.row.take (u * 7); rwa [ensV_take] at this) (by rw [e1]; unfold maxLen; omega)
    rw [e1, e2, decide_eq_true h3] at this
    exact this
  have hsl : ∀ u : Nat, u ≤ es.length → Hid (∀ W, (Instr.slice 37 (.slice a es.length cap) none (some (.int .i64 (u : Int))) none).run Tryz.prog W = .ok (.slice a u cap) W) := fun u hu W => slice_toS (P := Tryz.prog) elemE a es.length cap u (by have := hl.cap; omega) W
  have hsl' : ∀ u : Nat, u ≤ fs.length → Hid (∀ W, (Instr.slice 37 (.slice a' fs.length cap') none (some (.int .i64 (u : Int))) none).run Tryz.prog W = .ok (.slice a' u cap') W) := fun u hu W => slice_toS (P := Tryz.prog) elemE a' fs.length cap' u (by have := hl'.cap; omega) W
  by_cases hlt : fs.length < es.length
  · have hlt1 : (fs.length : Int) < (es.length : Int) := by omega
    have HSA := HS fs.length (by omega) (Nat.le_refl _) (s1 hlt)
    have q1 := (hsl fs.length (by omega)).out
    have q2 := (hsl' fs.length (Nat.le_refl _)).out
    clear hl hl' same s1 s2 hsl hsl' HS
    go_enter Tryz.func18, Tryz.ntmps18
    go_wp2
    go_region_held3 (fun W => True) (trivial) ((go_at_call 16; refine HSA.out.mono ?_; rintro e w1 ⟨rfl, hb1⟩))
    go_wp2
    go_ret
    exact ⟨rfl, (below0 w).drew.trans (hb1.mono (Nat.le_refl _))⟩
  · have hlt1 : ¬ (fs.length : Int) < (es.length : Int) := by omega
    have HSA := HS es.length (Nat.le_refl _) (by omega) (s2 hlt)
    have q1 := (hsl es.length (Nat.le_refl _)).out
    have q2 := (hsl' es.length (by omega)).out
    clear hl hl' same s1 s2 hsl hsl' HS
    go_enter Tryz.func18, Tryz.ntmps18
    go_wp2
    go_region_held3 (fun W => True) (trivial) ((go_at_call 16; refine HSA.out.mono ?_; rintro e w1 ⟨rfl, hb1⟩))
    go_wp2
    go_ret
    exact ⟨rfl, (below0 w).drew.trans (hb1.mono (Nat.le_refl _))⟩
set_option linter.unusedVariables false
set_option maxRecDepth 100000 in
set_option maxHeartbeats 6400000 in
theorem groupSettles_walk (many : Int) (ia : Option Addr) (ic : Nat) (its : List It) (w : World) (hits : ItemsIn w ia ic its) :
    Calls Tryz.prog 5 #[.int .i64 many, .slice ia its.length ic] w fun e w' => e = .returned (.bool true) ∧ Below w.heap.size w w' := by
  by_cases hmany : many < 1 ∨ 16 < many
  · have HN : Hid (∀ W, Calls Tryz.prog 11 #[.int .i64 many] W fun e w' => e = .returned (.tuple #[.pointer none, .int .i64 1]) ∧ w' = W) := fun W => gnew_no many W hmany
    clear hits hmany
    by_cases q120 : 120 < (its.length : Int)
    all_goals (
      go_enter Tryz.func5, Tryz.ntmps5
      go_wp2_with (first
        | (go_at_call 10; refine (groupAwake_any _).mono ?_; rintro e w1 ⟨rfl, hb1⟩)
        | (go_at_call 11; refine (HN.out _).mono ?_; rintro e wx ⟨rfl, hwx⟩; subst hwx))
      go_ret
      exact ⟨rfl, hb1⟩)
  obtain ⟨n, rfl⟩ : ∃ n : Nat, many = (n : Int) := ⟨many.toNat, by omega⟩
  have hn1 : 1 ≤ n := by omega
  have hn16 : n ≤ 16 := by omega
  have HN : Hid (∀ W, Calls Tryz.prog 11 #[.int .i64 (n : Int)] W (RetGr n W)) := fun W => gnew_any n W hn1 hn16
  by_cases q1 : 120 < (its.length : Int)
  · clear hits hmany
    go_enter Tryz.func5, Tryz.ntmps5
    go_wp2_with (first
      | (go_at_call 10; refine (groupAwake_any _).mono ?_; rintro e w1 ⟨rfl, hb1⟩)
      | (go_at_call 11; refine (HN.out _).mono ?_; rintro e w2 ⟨G, L, rfl, h2, hf2, hb2⟩; have hw2 := hb1.trans (hb2.mono hb1.size)))
    go_ret
    exact ⟨rfl, hw2⟩
  have HI := Lib.hid hits
  have hr0 : Hid (Sure n 0 (newGr n) gh0 ∧ Cp n gh0 0 []) := Lib.hid ⟨Sure.new hn1 hn16, .inl rfl⟩
  clear hits hmany
  go_enter Tryz.func5, Tryz.ntmps5
  go_wp2_with (first
    | (go_at_call 10; refine (groupAwake_any _).mono ?_; rintro e w1 ⟨rfl, hb1⟩)
    | (go_at_call 11; refine (HN.out _).mono ?_; rintro e w2 ⟨G, L, rfl, h2, hf2, hb2⟩; have hw2 := hb1.trans (hb2.mono hb1.size); have hfw : ∀ x ∈ gall G L, w.heap.size ≤ x := (fun x hx => Nat.le_trans hb1.size (hf2 x hx))))
  go_loopw [8, 9, 10] (fun vb vt j wr => ∃ (k : Nat) (L' : GL) (g : Gr) (h : Gh) (Y : List En) (T : Int) (a : Option Addr) (c : Nat), k ≤ its.length ∧ vb = .slice a Y.length c ∧ vt = .int .i64 T ∧ j = .int .i64 (k : Int) ∧ Hid (Sure n k g h ∧ Cp n h T Y) ∧ Hid (Best w.heap.size wr G L' g Y a c) ∧ Y.length ≤ 64 ∧ Below w.heap.size w wr) (fun _ _ j _ => its.length - (intOf j).toNat)
  case atStart => exact ⟨0, L, newGr n, gh0, [], 0, none, 0, by omega, rfl, rfl, rfl, hr0, Lib.hid ⟨h2, hfw, World.ownsRow_nil _ _ _ _, (fun x _ hx => by cases hx)⟩, by simp, hw2⟩
  case round =>
    clear h2 hf2 hw2 hfw hb1 hb2 hr0
    obtain ⟨k, L4, g, h, Y, T, a, c, hk, rfl, rfl, rfl, HR, H4, hY64, hw4⟩ := hrel
    have hk0 : (0 : Int) ≤ (k : Int) := by omega
    by_cases hlt : k < its.length
    rotate_left 1
    · have hk1 : ¬ (k : Int) < (its.length : Int) := by omega
      go_wp2
      go_ret
      exact ⟨rfl, hw4⟩
    have hk1 : (k : Int) < (its.length : Int) := by omega
    obtain ⟨nb, noff, rfl, nlt, n0, n1, n2, n3⟩ := item_cells (HI.out.below hw4) hlt
    obtain ⟨h5, he5, hs5⟩ := HR.out.1.next (its[k]'hlt)
    have HN5 : Hid (Sure n (k + 1) (g.item (its[k]'hlt)) h5 ∧ Cp n h5 T Y) := Lib.hid ⟨hs5, by have := HR.out.2; have gi := HR.out.1.inv.gi; rw [HR.out.1.ran.many] at gi; exact this.ext gi he5⟩
    have HDO : Hid (Calls Tryz.prog 12 #[.pointer (some ⟨G, 0, none⟩), itV (its[k]'hlt).1 (its[k]'hlt).2.1 (its[k]'hlt).2.2.1 (its[k]'hlt).2.2.2] wr (RetE (g.does (its[k]'hlt).1 (its[k]'hlt).2.1 (its[k]'hlt).2.2.1 (its[k]'hlt).2.2.2) G L4 wr)) := do_any HR.out.1.ran.ok H4.out.g _ _ _ _ (by have := HR.out.1.ran.net; omega)
    clear hs5 he5 HR
    generalize (its[k]'hlt) = it at *
    obtain ⟨t0, t1, t2, t3⟩ := it
    simp only at n0 n1 n2 n3 HDO
    have hg5 : g.item (t0, t1, t2, t3) = (g.does t0 t1 t2 t3).1 := rfl
    rw [hg5] at HN5
    generalize g.does t0 t1 t2 t3 = r5 at *
    obtain ⟨g5, e5⟩ := r5
    clear hg5
    go_wp2_with (go_at_call 12; refine HDO.out.mono ?_; rintro e w5 ⟨rfl, L5, g5at, S5⟩; have H5 := Lib.hid (H4.out.step hw4.size g5at S5); have hw5 : Below w.heap.size w w5 := hw4.trans (S5.chg.to_below H4.out.gb hw4.size))
    have HS5 := Lib.hid HN5.out.1
    have hgn : g5.ms.length ≤ 16 := HS5.out.ran.ok.n16
    have hfb : ∀ (t v : Int) (W : World), (Instr.field 34 (ballotV t v) 0).run Tryz.prog W = .ok (.int .i64 t) W := fun t v W => by kernel_rfl
    have HGI : Hid (Gi n h5) := by have gi := HS5.out.inv.gi; rw [HS5.out.ran.many] at gi; exact gi
    have HC5 := Lib.hid HN5.out.2
    clear HDO n0 n1 n2 n3 nlt S5 g5at H4 hw4 HN5
    go_loopw [8, 9, 11] (fun vb vt j wr => ∃ (m : Nat) (Y : List En) (T : Int) (a : Option Addr) (c : Nat), m ≤ n ∧ vb = .slice a Y.length c ∧ vt = .int .i64 T ∧ j = .int .i64 ((m : Int) + 1) ∧ Hid (Cp n h5 T Y) ∧ Hid (Best w.heap.size wr G L5 g5 Y a c) ∧ Y.length ≤ 64 ∧ Below w.heap.size w wr) (fun _ _ j _ => (n + 1 : Nat) - (intOf j).toNat)
    case atStart => exact ⟨0, Y, T, a, c, by omega, rfl, rfl, rfl, HC5, H5, hY64, hw5⟩
    case round =>
      clear H5 hw5 HC5 hY64
      obtain ⟨m, Y, T, a, c, hm, rfl, rfl, rfl, HC, H6, hY64, hw6⟩ := hrel
      by_cases hmn : m < n
      · have hm1 : (m : Int) + 1 ≤ (n : Int) := by omega
        obtain ⟨p, hp⟩ : ∃ p, g5.ms[m]? = some p := ⟨_, List.getElem?_eq_getElem (by rw [HS5.out.ran.many]; exact hmn)⟩
        have hmb := (HS5.out.ran.ok.pair m p hp).mb
        have hl64 := hmb.len64
        have HSE := Lib.hid (gsettled_any H6.out.g hgn hp hl64 hmb.set0 hmb.set64)
        have HBA : Hid (∀ W, GAt W G L5 g5 → Calls Tryz.prog 14 #[.pointer (some ⟨G, 0, none⟩), .int .i64 ((m : Int) + 1)] W fun e w' => e = .returned (ballotV p.1.term p.1.vote) ∧ Below W.heap.size W w') := fun W h => gballot_any h hgn hp
        have HCS : Hid (Cp n h5 p.1.term (settledE p.1)) := by
          have := HS5.out.inv.settled HS5.out.ran.ok (i := (m : Int) + 1) (by omega) (by have := HS5.out.ran.many; omega)
          rw [at_some hp, HS5.out.ran.many] at this
          exact this
        have hs64 : (settledE p.1).length ≤ 64 := by unfold settledE; rw [List.length_take]; omega
        have HFI : Hid ((settledE p.1).take (min (settledE p.1).length Y.length) = Y.take (min (settledE p.1).length Y.length)) := HCS.out.fits HGI.out HC.out
        generalize settledE p.1 = S at *
        generalize p.1.term = pt at *
        generalize p.1.vote = pv at *
        clear hmb
        by_cases hlen : Y.length < S.length
        · have hlen1 : (Y.length : Int) < (S.length : Int) := by omega
          go_wp2_with (first
            | (go_at_call 17; refine HSE.out.mono ?_; rintro e w7 ⟨A7, c7, rfl, own7, hb7⟩; have H7 := Lib.hid (H6.out.below hb7); have hw7 := hw6.trans (hb7.mono hw6.size); have lS := LogIn.of_own own7; have HB7 := Lib.hid (begins_any A7 c7 S a c Y w7 lS (LogIn.of_own H7.out.y) (by omega) (by omega) HFI.out))
            | (go_at_call 18; refine HB7.out.mono ?_; rintro e w8 ⟨rfl, hb8⟩; have H8 := Lib.hid (H7.out.below hb8); have hw8 := hw7.trans (hb8.mono hw7.size); have lS8 := lS.below hb8)
            | (at_builtin; refine wpList_append_row rfl (.const (.slice none 0 0)) (.tmp 69) rfl elemE w8.heap.size (.slice none 0 0) 0 [] (by rfl) (World.ownsRow_nil _ _ _ _) A7 S.length c7 (ensV S) (by rfl) (ensV_length _) lS8.row (ensV_one _) (by unfold maxLen; omega) (by omega) (Nat.le_refl _) lS8.none_ ?_; intro a9 c9 w9 hown9 hg9 hat9; simp only [Nat.zero_add, List.nil_append] at hown9; have hb9 : Below w8.heap.size w8 w9 := (below0 w8).grown hg9 (Nat.le_refl _) (fun k hk => by cases hk); have H9 := Lib.hid (H8.out.new hw8.size hb9 hown9); have hw9 := hw8.trans (hb9.mono hw8.size); clear hown9 hg9 hat9; have HB9 := Lib.hid (HBA.out _ H9.out.g))
            | (go_at_call 14; refine HB9.out.mono ?_; rintro e w10 ⟨rfl, hb10⟩; have H10 := Lib.hid (H9.out.below hb10); have hw10 := hw9.trans (hb10.mono hw9.size)))
          go_roundw
          case rel => exact ⟨m + 1, S, pt, a9, c9, by omega, rfl, rfl, by go_num, HCS, H10, hs64, hw10⟩
          case measure => simp [intOf]; omega
        · have hlen1 : ¬ (Y.length : Int) < (S.length : Int) := by omega
          go_wp2_with (first
            | (go_at_call 17; refine HSE.out.mono ?_; rintro e w7 ⟨A7, c7, rfl, own7, hb7⟩; have H7 := Lib.hid (H6.out.below hb7); have hw7 := hw6.trans (hb7.mono hw6.size); have lS := LogIn.of_own own7; have HB7 := Lib.hid (begins_any A7 c7 S a c Y w7 lS (LogIn.of_own H7.out.y) (by omega) (by omega) HFI.out))
            | (go_at_call 18; refine HB7.out.mono ?_; rintro e w8 ⟨rfl, hb8⟩; have H8 := Lib.hid (H7.out.below hb8); have hw8 := hw7.trans (hb8.mono hw7.size)))
          go_roundw
          case rel => exact ⟨m + 1, Y, T, a, c, by omega, rfl, rfl, by go_num, HC, H8, hY64, hw8⟩
          case measure => simp [intOf]; omega
      have hm1 : ¬ (m : Int) + 1 ≤ (n : Int) := by omega
      go_wp2
      go_loopw [14] (fun j wr => ∃ (q : Nat), q ≤ n ∧ j = .int .i64 ((q : Int) + 1) ∧ Hid (Best w.heap.size wr G L5 g5 Y a c) ∧ Below w.heap.size w wr) (fun j _ => (n + 1 : Nat) - (intOf j).toNat)
      case atStart => exact ⟨0, by omega, rfl, H6, hw6⟩
      case round =>
        clear H6 hw6
        obtain ⟨q, hq, rfl, H6, hw6⟩ := hrel
        by_cases hqn : q < n
        rotate_left 1
        · have hq1 : ¬ (q : Int) + 1 ≤ (n : Int) := by omega
          go_wp2
          go_roundw
          case rel => exact ⟨k + 1, L5, g5, h5, Y, T, a, c, by omega, rfl, rfl, by go_num, Lib.hid ⟨HS5.out, HC.out⟩, H6, hY64, hw6⟩
          case measure => simp [intOf]; omega
        have hq1 : (q : Int) + 1 ≤ (n : Int) := by omega
        obtain ⟨p, hp⟩ : ∃ p, g5.ms[q]? = some p := ⟨_, List.getElem?_eq_getElem (by rw [HS5.out.ran.many]; exact hqn)⟩
        have hl64 := (HS5.out.ran.ok.pair q p hp).mb.len64
        have HRO := Lib.hid (grole_any H6.out.g hgn hp)
        have HBA : Hid (∀ W, GAt W G L5 g5 → Calls Tryz.prog 14 #[.pointer (some ⟨G, 0, none⟩), .int .i64 ((q : Int) + 1)] W fun e w' => e = .returned (ballotV p.1.term p.1.vote) ∧ Below W.heap.size W w') := fun W h => gballot_any h hgn hp
        have HLX : Hid (∀ W, GAt W G L5 g5 → Calls Tryz.prog 15 #[.pointer (some ⟨G, 0, none⟩), .int .i64 ((q : Int) + 1)] W (RetRow 42 7 p.1.log.length (ensV p.1.log) W)) := fun W h => glog_any h hgn hp hl64
        by_cases hr2 : p.1.role = 2
        rotate_left 1
        · have hr2' : (p.1.role == 2) = false := by simpa using hr2
          have hr2'' : decide (p.1.role = 2) = false := decide_eq_false hr2
          go_wp2_with (go_at_call 13; refine HRO.out.mono ?_; rintro e w7 ⟨rfl, hb7⟩; have H7 := Lib.hid (H6.out.below hb7); have hw7 := hw6.trans (hb7.mono hw6.size))
          go_roundw
          case rel => exact ⟨q + 1, by omega, by go_num, H7, hw7⟩
          case measure => simp [intOf]; omega
        have HHA : Hid (T ≤ p.1.term → Y.length ≤ p.1.log.length ∧ Y = p.1.log.take Y.length) := fun hT => by
          have := HS5.out.inv.has HS5.out.ran.ok (i := (q : Int) + 1) (by omega) (by have := HS5.out.ran.many; omega) (by rw [at_some hp]; exact hr2) (T := T) (Y := Y) (by rw [HS5.out.ran.many]; exact HC.out) (by rw [at_some hp]; exact hT)
          rwa [at_some hp] at this
        rw [hr2] at HRO
        clear hr2
        generalize p.1.term = pt at *
        generalize p.1.vote = pv at *
        by_cases hpt : pt < T
        · go_wp2_with (first
            | (go_at_call 13; refine HRO.out.mono ?_; rintro e w7 ⟨rfl, hb7⟩; have H7 := Lib.hid (H6.out.below hb7); have hw7 := hw6.trans (hb7.mono hw6.size); have HB7 := Lib.hid (HBA.out _ H7.out.g))
            | (go_at_call 14; refine HB7.out.mono ?_; rintro e w8 ⟨rfl, hb8⟩; have H8 := Lib.hid (H7.out.below hb8); have hw8 := hw7.trans (hb8.mono hw7.size)))
          go_roundw
          case rel => exact ⟨q + 1, by omega, by go_num, H8, hw8⟩
          case measure => simp [intOf]; omega
        obtain ⟨hyl, hye⟩ := HHA.out (by omega)
        have hyl1 : ¬ (p.1.log.length : Int) < (Y.length : Int) := by omega
        have HYE := Lib.hid hye
        clear hye
        generalize p.1.log = X at *
        have HSL : Hid (∀ A C, X.length ≤ C → ∀ W, (Instr.slice 37 (.slice A X.length C) none (some (.int .i64 (Y.length : Int))) none).run Tryz.prog W = .ok (.slice A Y.length C) W) := fun A C hC W => slice_toS (P := Tryz.prog) elemE A X.length C Y.length (by omega) W
        have HSA : Hid (∀ W A C A' C', RowAt W A (ensV X) → RowAt W A' (ensV Y) → Calls Tryz.prog 16 #[.slice A Y.length C, .slice A' Y.length C'] W fun e w' => e = .returned (.bool true) ∧ Below W.heap.size W w') := fun W A C A' C' r1 r2 => by
          have e1 : (X.take Y.length).length = Y.length := by rw [List.length_take]; omega
          have := same_any A C (X.take Y.length) A' C' Y W (by have := r1.take (Y.length * 7); rwa [ensV_take] at this) r2 (by rw [e1]; unfold maxLen; omega)
          rw [e1, decide_eq_true HYE.out.symm] at this
          exact this
        go_wp2_with (first
          | (go_at_call 13; refine HRO.out.mono ?_; rintro e w7 ⟨rfl, hb7⟩; have H7 := Lib.hid (H6.out.below hb7); have hw7 := hw6.trans (hb7.mono hw6.size); have HB7 := Lib.hid (HBA.out _ H7.out.g))
          | (go_at_call 14; refine HB7.out.mono ?_; rintro e w8 ⟨rfl, hb8⟩; have H8 := Lib.hid (H7.out.below hb8); have hw8 := hw7.trans (hb8.mono hw7.size); have HL8 := Lib.hid (HLX.out _ H8.out.g))
          | (go_at_call 15; refine HL8.out.mono ?_; rintro e w9 ⟨A9, c9, rfl, own9, hb9⟩; have H9 := Lib.hid (H8.out.below hb9); have hw9 := hw8.trans (hb9.mono hw8.size); have lX := LogIn.of_own own9; have hsl := HSL.out A9 c9 lX.cap; have HS9 := Lib.hid (HSA.out w9 A9 c9 a c lX.row (RowAt.of_own H9.out.y)))
          | (go_at_call 16; refine HS9.out.mono ?_; rintro e w10 ⟨rfl, hb10⟩; have H10 := Lib.hid (H9.out.below hb10); have hw10 := hw9.trans (hb10.mono hw9.size)))
        go_roundw
        case rel => exact ⟨q + 1, by omega, by go_num, H10, hw10⟩
        case measure => simp [intOf]; omega
end Go.Proofs.YtnljdkglncmfaaaGreat
