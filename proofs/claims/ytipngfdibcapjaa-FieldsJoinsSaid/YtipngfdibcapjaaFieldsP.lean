/-
  Layer 2: what bytes begin with: a number, so many numbers, numbers and bytes; the plain laws.
-/
import Derived.Test.YtipngfdibcapjaaFieldsH
namespace Go.Proofs.Ytipngfdibcapjaa
open Go.RowKit
/-! ### Bytes as a number -/
def valB : List UInt8 → Nat
  | [] => 0
  | c :: t => c.toNat * 256 ^ t.length + valB t
theorem valB_lt : ∀ bs : List UInt8, valB bs < 256 ^ bs.length
  | [] => by simp [valB]
  | c :: t => by
    have h := valB_lt t
    have hc := c.toNat_lt
    rw [valB, List.length_cons, Nat.pow_succ]
    have h1 : c.toNat * 256 ^ t.length ≤ 255 * 256 ^ t.length := Nat.mul_le_mul_right _ (by omega)
    omega
theorem valB_snoc : ∀ (bs : List UInt8) (c : UInt8), valB (bs ++ [c]) = valB bs * 256 + c.toNat
  | [], c => by simp [valB]
  | d :: t, c => by
    rw [List.cons_append, valB, valB, valB_snoc t c, List.length_append, List.length_singleton, Nat.pow_succ, Nat.add_mul, Nat.mul_assoc]
    omega
theorem valB_inj : ∀ {xs ys : List UInt8}, xs.length = ys.length → valB xs = valB ys → xs = ys
  | [], [], _, _ => rfl
  | [], _ :: _, h, _ => by simp at h
  | _ :: _, [], h, _ => by simp at h
  | c :: t, d :: u, h, hv => by
    have hl : t.length = u.length := by simpa using h
    rw [valB, valB, hl] at hv
    have h1 := valB_lt t
    have h2 := valB_lt u
    rw [hl] at h1
    have hp : 0 < 256 ^ u.length := Nat.pow_pos (by decide)
    have hc : c.toNat = d.toNat := by
      have e1 : (c.toNat * 256 ^ u.length + valB t) / 256 ^ u.length = c.toNat := by
        rw [Nat.mul_comm, Nat.mul_add_div hp, Nat.div_eq_of_lt h1]; omega
      have e2 : (d.toNat * 256 ^ u.length + valB u) / 256 ^ u.length = d.toNat := by
        rw [Nat.mul_comm, Nat.mul_add_div hp, Nat.div_eq_of_lt h2]; omega
      rw [← e1, ← e2, hv]
    rw [hc] at hv
    rw [UInt8.toNat_inj.1 hc, valB_inj hl (by omega)]
theorem valB_digsP (n size : Nat) : ∀ i, i ≤ size → valB (digsP n size i) = n / 256 ^ (size - i) % 256 ^ i
  | 0, _ => by simp [digsP, valB, Nat.mod_one]
  | i + 1, h => by
    rw [digsP_succ, valB_snoc, valB_digsP n size i (by omega), b8_mod, show size - 1 - i = size - (i + 1) by omega]
    have e : n / 256 ^ (size - i) = n / 256 ^ (size - (i + 1)) / 256 := by
      rw [Nat.div_div_eq_div_mul, ← Nat.pow_succ, show (size - (i + 1)).succ = size - i by omega]
    rw [e, Nat.pow_succ, Nat.mul_comm (256 ^ i) 256, Nat.mod_mul]
    omega
theorem valB_digs {n size : Nat} (h : n < 256 ^ size) : valB (digs n size) = n := by
  unfold digs
  rw [valB_digsP n size size (Nat.le_refl _), Nat.sub_self, Nat.pow_zero, Nat.div_one, Nat.mod_eq_of_lt h]
theorem digs_length (n size : Nat) : (digs n size).length = size := digsP_length n size size
theorem digs_valB (bs : List UInt8) : digs (valB bs) bs.length = bs := valB_inj (digs_length _ _) (valB_digs (valB_lt bs))
theorem dsz_valB {c : UInt8} {t : List UInt8} (hc : c ≠ 0) (ht : t.length < 8) : dsz (valB (c :: t)) = t.length + 1 := by
  have h1 := valB_lt (c :: t)
  rw [List.length_cons] at h1
  have h0 : 0 < c.toNat := by
    rcases Nat.eq_zero_or_pos c.toNat with h | h
    · exact (hc (UInt8.toNat_inj.1 h)).elim
    · exact h
  have h2 : 256 ^ t.length ≤ valB (c :: t) := by
    rw [valB]
    have := Nat.mul_le_mul_right (256 ^ t.length) h0
    omega
  have h64 : valB (c :: t) < 18446744073709551616 := Nat.lt_of_lt_of_le h1 (by
    have := Nat.pow_le_pow_right (show 0 < 256 by decide) (show t.length + 1 ≤ 8 by omega)
    simpa using this)
  have h3 := dsz_lt _ _ h1 h64
  have h4 := (dsz_pow _ _ rfl h64).1
  rcases Nat.lt_or_ge (dsz (valB (c :: t))) (t.length + 1) with h5 | h5
  · have := Nat.pow_le_pow_right (show 0 < 256 by decide) (show dsz (valB (c :: t)) ≤ t.length by omega)
    omega
  · omega
theorem digs_head {n : Nat} (h0 : 0 < dsz n) (hn : n < 18446744073709551616) : ∃ c t, digs n (dsz n) = c :: t ∧ c ≠ 0 := by
  obtain ⟨h1, h2⟩ := dsz_pow _ n rfl hn
  match hd : digs n (dsz n) with
  | [] => have := digs_length n (dsz n); rw [hd] at this; simp at this; omega
  | c :: t =>
    refine ⟨c, t, rfl, fun hc => ?_⟩
    have hv := valB_digs h1
    have hl := digs_length n (dsz n)
    rw [hd] at hv hl
    rw [valB, hc] at hv
    have := valB_lt t
    rw [List.length_cons] at hl
    have h3 := h2 h0
    rw [show dsz n - 1 = t.length by omega] at h3
    simp at hv
    omega
/-! ### A number -/
/-- What bytes begin with: an error, a number, how many bytes it has. -/
def numP (bs : List UInt8) : Int × Nat × Nat :=
  if bs.length = 0 then (3, 0, 0)
  else if 7 < (bs.getD 0 0).toNat then (2, 0, 0)
  else if 0 < (bs.getD 0 0).toNat ∧ 2 ≤ bs.length ∧ bs.getD 1 0 = 0 then (2, 0, 0)
  else if bs.length < 1 + (bs.getD 0 0).toNat then (3, 0, 0)
  else (0, valB ((bs.drop 1).take (bs.getD 0 0).toNat), 1 + (bs.getD 0 0).toNat)
theorem numP_put {v : Int} (h0 : 0 ≤ v) (h1 : v < 72057594037927936) (rest : List UInt8) : numP (numB v ++ rest) = (0, v.toNat, (numB v).length) := by
  have h7 := dsz_le7 (n := v.toNat) (by omega)
  have hb : (b8 (dsz v.toNat)).toNat = dsz v.toNat := b8_toNat _ (by omega)
  have hp := (dsz_pow _ v.toNat rfl (by omega)).1
  have hl := digs_length v.toNat (dsz v.toNat)
  rw [numB_length]
  unfold numP numB
  simp only [List.cons_append, List.getD_cons_zero, List.length_cons, hb, List.drop_succ_cons, List.drop_zero, List.length_append, hl]
  rw [if_neg (by omega), if_neg (by omega), if_neg ?_, if_neg (by omega), List.take_append_of_le_length (by omega), List.take_of_length_le (by omega), valB_digs hp]
  rintro ⟨ha, _, hc⟩
  obtain ⟨c, t, he, hne⟩ := digs_head ha (by omega)
  rw [he] at hc
  simp at hc
  exact hne hc
theorem numP_short {v : Int} (h0 : 0 ≤ v) (h1 : v < 72057594037927936) {X Y : List UInt8} (h : numB v = X ++ Y) (hY : 0 < Y.length) : numP X = (3, 0, 0) := by
  have h7 := dsz_le7 (n := v.toNat) (by omega)
  have hb : (b8 (dsz v.toNat)).toNat = dsz v.toNat := b8_toNat _ (by omega)
  have hl := congrArg List.length h
  rw [numB_length, List.length_append] at hl
  match X, h, hl with
  | [], _, _ => rfl
  | x :: X, h, hl =>
    unfold numB at h
    rw [List.cons_append] at h
    injection h with h2 h3
    subst h2
    rw [List.length_cons] at hl
    unfold numP
    simp only [List.length_cons, List.getD_cons_zero, hb]
    rw [if_neg (by omega), if_neg (by omega), if_neg ?_, if_pos (by omega)]
    rintro ⟨ha, hb2, hc⟩
    obtain ⟨c, t, he, hne⟩ := digs_head ha (by omega)
    match X, hb2 with
    | y :: X, _ =>
      rw [he, List.cons_append] at h3
      injection h3 with h4 h5
      simp at hc
      rw [h4] at hne
      exact hne hc
theorem numP_back {bs : List UInt8} {v n : Nat} (h : numP bs = (0, v, n)) : ∃ rest, bs = numB (v : Int) ++ rest ∧ v < 72057594037927936 ∧ n = (numB (v : Int)).length := by
  unfold numP at h
  split at h
  · cases h
  · rename_i h1
    split at h
    · cases h
    · rename_i h2
      split at h
      · cases h
      · rename_i h3
        split at h
        · cases h
        · rename_i h4
          match bs, h1, h2, h3, h4, h with
          | [], h1, _, _, _, _ => exact (h1 rfl).elim
          | c :: t, _, h2, h3, h4, h =>
            simp only [List.getD_cons_zero, List.drop_succ_cons, List.drop_zero, List.length_cons, Prod.mk.injEq] at h h2 h3 h4
            obtain ⟨_, hv, hn⟩ := h
            have hlen : (t.take c.toNat).length = c.toNat := by rw [List.length_take]; omega
            have hd : dsz v = c.toNat := by
              match ht : t.take c.toNat with
              | [] => rw [ht] at hlen hv; simp at hlen; rw [← hv, ← hlen]; exact dsz_zero
              | d :: u =>
                rw [ht] at hlen hv
                simp at hlen
                rw [← hv, dsz_valB ?_ (by omega), hlen]
                intro hd0
                apply h3
                refine ⟨by omega, by omega, ?_⟩
                match t, ht with
                | [], ht => simp at ht
                | x :: t, ht =>
                  rw [← hlen, List.take_succ_cons] at ht
                  injection ht with hx _
                  simp [hx, hd0]
            have hlt := valB_lt (t.take c.toNat)
            rw [hv, hlen] at hlt
            have h56 : v < 72057594037927936 := Nat.lt_of_lt_of_le hlt (by
              have := Nat.pow_le_pow_right (show 0 < 256 by decide) (show c.toNat ≤ 7 by omega)
              simpa using this)
            refine ⟨t.drop c.toNat, ?_, h56, by rw [numB_length]; simp [hd, hn]⟩
            unfold numB
            rw [Int.toNat_natCast, hd, ← hv]
            have := digs_valB (t.take c.toNat)
            rw [hlen] at this
            rw [this, List.cons_append, List.take_append_drop]
            congr 1
            exact UInt8.toNat_inj.1 (by rw [b8_toNat _ c.toNat_lt])
theorem numP_zero {bs : List UInt8} (h : (numP bs).1 = 0) : ∃ rest, bs = numB ((numP bs).2.1 : Int) ++ rest ∧ (numP bs).2.1 < 72057594037927936 ∧ (numP bs).2.2 = (numB ((numP bs).2.1 : Int)).length := numP_back (bs := bs) (Prod.ext h rfl)
/-! ### So many numbers -/
def numsA (bs : List UInt8) : Nat → Nat → List Int → Int × List Int × Nat
  | 0, p, acc => (0, acc, p)
  | k + 1, p, acc => if (numP (bs.drop p)).1 = 0 then numsA bs k (p + (numP (bs.drop p)).2.2) (acc ++ [((numP (bs.drop p)).2.1 : Int)]) else ((numP (bs.drop p)).1, [], 0)
theorem numsA_go {bs : List UInt8} {k p : Nat} {acc : List Int} (h : (numP (bs.drop p)).1 = 0) : numsA bs (k + 1) p acc = numsA bs k (p + (numP (bs.drop p)).2.2) (acc ++ [((numP (bs.drop p)).2.1 : Int)]) := if_pos h
theorem numsA_stop {bs : List UInt8} {k p : Nat} {acc : List Int} (h : (numP (bs.drop p)).1 ≠ 0) : numsA bs (k + 1) p acc = ((numP (bs.drop p)).1, [], 0) := if_neg h
abbrev Fair (ns : List Int) : Prop := ∀ n ∈ ns, 0 ≤ n ∧ n < 72057594037927936
theorem numsA_put {bs rest : List UInt8} : ∀ {ns : List Int} {p : Nat} {acc : List Int}, Fair ns → bs.drop p = ns.flatMap numB ++ rest → numsA bs ns.length p acc = (0, acc ++ ns, p + (ns.flatMap numB).length)
  | [], p, acc, _, _ => by simp [numsA]
  | n :: ns, p, acc, hf, h => by
    have hn := hf n (by simp)
    rw [List.flatMap_cons, List.append_assoc] at h
    have hp := numP_put hn.1 hn.2 (ns.flatMap numB ++ rest)
    rw [← h] at hp
    rw [List.length_cons, numsA_go (by rw [hp]), hp]
    have h2 : bs.drop (p + (numB n).length) = ns.flatMap numB ++ rest := by
      rw [← List.drop_drop, h, List.drop_left]
    have := numsA_put (acc := acc ++ [n]) (fun m hm => hf m (by simp [hm])) h2
    have e : ((n.toNat : Nat) : Int) = n := by omega
    simp only [e]
    rw [this, List.append_assoc, List.flatMap_cons, List.length_append]
    simp [Nat.add_assoc]
theorem numsA_short {bs Y : List UInt8} : ∀ {ns : List Int} {p : Nat} {acc : List Int}, Fair ns → ns.flatMap numB = bs.drop p ++ Y → 0 < Y.length → numsA bs ns.length p acc = (3, [], 0)
  | [], p, acc, _, h, hY => by
    simp at h
    rw [h.2] at hY
    simp at hY
  | n :: ns, p, acc, hf, h, hY => by
    have hn := hf n (by simp)
    rw [List.flatMap_cons] at h
    rw [List.length_cons]
    rcases List.append_eq_append_iff.1 h with ⟨Z, h1, h2⟩ | ⟨Z, h1, h2⟩
    · have hp := numP_put hn.1 hn.2 Z
      rw [← h1] at hp
      rw [numsA_go (by rw [hp]), hp]
      exact numsA_short (fun m hm => hf m (by simp [hm])) (by rw [h2, ← List.drop_drop, h1, List.drop_left]) hY
    · by_cases hZ : Z = []
      · subst hZ
        rw [List.append_nil] at h1
        have hp := numP_put hn.1 hn.2 []
        rw [List.append_nil, h1] at hp
        rw [numsA_go (by rw [hp]), hp]
        refine numsA_short (fun m hm => hf m (by simp [hm])) (Y := Y) ?_ hY
        rw [← h1, ← List.drop_drop, ← h1, List.drop_length]
        simpa using h2.symm
      · have hp := numP_short hn.1 hn.2 h1 (List.length_pos_iff.2 hZ)
        rw [numsA_stop (by rw [hp]; decide), hp]
theorem numsA_back {bs : List UInt8} : ∀ {k p : Nat} {acc vs : List Int} {q : Nat}, numsA bs k p acc = (0, vs, q) → ∃ ns rest, ns.length = k ∧ vs = acc ++ ns ∧ Fair ns ∧ bs.drop p = ns.flatMap numB ++ rest ∧ q = p + (ns.flatMap numB).length
  | 0, p, acc, vs, q, h => by
    simp [numsA] at h
    exact ⟨[], bs.drop p, rfl, by simp [h.1], fun n hn => by simp at hn, by simp, by simp [h.2]⟩
  | k + 1, p, acc, vs, q, h => by
    by_cases h0 : (numP (bs.drop p)).1 = 0
    · rw [numsA_go h0] at h
      obtain ⟨rest, h1, h2, h3⟩ := numP_zero h0
      obtain ⟨ns, rest', g1, g2, g3, g4, g5⟩ := numsA_back h
      rw [h3] at g4 g5
      generalize (numP (bs.drop p)).2.1 = v at *
      refine ⟨(v : Int) :: ns, rest', by simp [g1], by simp [g2], ?_, ?_, ?_⟩
      · intro n hn
        rcases List.mem_cons.1 hn with rfl | hn
        · omega
        · exact g3 n hn
      · rw [← List.drop_drop] at g4
        rw [h1, List.drop_left] at g4
        rw [h1, g4, List.flatMap_cons, List.append_assoc]
      · rw [List.flatMap_cons, List.length_append, g5]; omega
    · rw [numsA_stop h0] at h
      injection h with h _
      exact (h0 h).elim
theorem numsA_fall {bs : List UInt8} : ∀ {k p : Nat} {acc : List Int}, (numsA bs k p acc).1 ≠ 0 → (numsA bs k p acc).2 = ([], 0)
  | 0, p, acc, h => (h rfl).elim
  | k + 1, p, acc, h => by
    by_cases h0 : (numP (bs.drop p)).1 = 0
    · rw [numsA_go h0] at h ⊢; exact numsA_fall h
    · rw [numsA_stop h0]
/-! ### Numbers and bytes -/
def szP (bs : List UInt8) (p : Nat) : Nat := (bs.getD p 0).toNat * 256 + (bs.getD (p + 1) 0).toNat
def tailP (bs : List UInt8) (ns : List Int) (p : Nat) : Int × List Int × List UInt8 × Nat :=
  if bs.length < p + 2 then (3, [], [], 0) else if 4096 < szP bs p then (7, [], [], 0) else if bs.length < p + 2 + szP bs p then (3, [], [], 0) else (0, ns, (bs.drop (p + 2)).take (szP bs p), p + 2 + szP bs p)
/-- The first numbers and bytes of some: an error, the numbers, the bytes, how many bytes they have. -/
def cutP (bs : List UInt8) : Int × List Int × List UInt8 × Nat :=
  if bs.length = 0 then (3, [], [], 0)
  else if (numsA bs (bs.getD 0 0).toNat 1 []).1 = 0 then tailP bs (numsA bs (bs.getD 0 0).toNat 1 []).2.1 (numsA bs (bs.getD 0 0).toNat 1 []).2.2
  else ((numsA bs (bs.getD 0 0).toNat 1 []).1, [], [], 0)
def unpackP (bs : List UInt8) : Int × List Int × List UInt8 := if (cutP bs).1 = 0 ∧ (cutP bs).2.2.2 ≠ bs.length then (2, [], []) else ((cutP bs).1, (cutP bs).2.1, (cutP bs).2.2.1)
theorem szP_digs {bs : List UInt8} {p n : Nat} {rest : List UInt8} (hn : n < 65536) (h : bs.drop p = digs n 2 ++ rest) : szP bs p = n ∧ p + 2 ≤ bs.length := by
  have hl := congrArg List.length h
  rw [List.length_append, digs_length, List.length_drop] at hl
  have h0 : bs.getD p 0 = b8 (n / 256) := by
    have := congrArg (fun l => l.getD 0 0) h
    simp [digs, digsP, List.range_succ] at this
    simpa using this
  have h1 : bs.getD (p + 1) 0 = b8 n := by
    have := congrArg (fun l => l.getD 1 0) h
    simp [digs, digsP, List.range_succ] at this
    simpa using this
  unfold szP
  rw [h0, h1, b8_mod, b8_mod]
  omega
theorem digs_szP {bs : List UInt8} {p : Nat} (h : p + 2 ≤ bs.length) : bs.drop p = digs (szP bs p) 2 ++ bs.drop (p + 2) := by
  have e : bs.drop p = [bs.getD p 0, bs.getD (p + 1) 0] ++ bs.drop (p + 2) := by
    rw [List.drop_eq_getElem_cons (by omega), List.drop_eq_getElem_cons (by omega)]
    simp [List.getD_eq_getElem?_getD, List.getElem?_eq_getElem (show p < bs.length by omega), List.getElem?_eq_getElem (show p + 1 < bs.length by omega)]
  rw [e]
  congr 1
  have := digs_valB [bs.getD p 0, bs.getD (p + 1) 0]
  rw [← this]
  simp [valB, szP]
theorem head_eq : ∀ {bs : List UInt8}, ¬ bs.length = 0 → bs = bs.getD 0 0 :: bs.drop 1
  | [], h => (h rfl).elim
  | c :: t, _ => by simp
theorem cutP_put {f : Fl} (h : packE f = 0) (more : List UInt8) : cutP (packX f ++ more) = (0, f.1, f.2, (packX f).length) := by
  obtain ⟨h1, h2, h3⟩ := packE_zero h
  have hlen := packX_length f
  have h0 : (packX f ++ more).getD 0 0 = b8 f.1.length := by simp [packX]
  have hd : (packX f ++ more).drop 1 = f.1.flatMap numB ++ (digs f.2.length 2 ++ (f.2 ++ more)) := by simp [packX]
  have hA := numsA_put (bs := packX f ++ more) (acc := []) h3 hd
  have hb : (b8 f.1.length).toNat = f.1.length := b8_toNat _ (by omega)
  unfold cutP
  rw [h0, hb, hA, if_neg (by rw [List.length_append]; omega), if_pos rfl]
  simp only [List.nil_append]
  have hd2 : (packX f ++ more).drop (1 + (f.1.flatMap numB).length) = digs f.2.length 2 ++ (f.2 ++ more) := by rw [← List.drop_drop, hd, List.drop_left]
  obtain ⟨hs, hl⟩ := szP_digs (by omega) hd2
  have hd3 : (packX f ++ more).drop (1 + (f.1.flatMap numB).length + 2) = f.2 ++ more := by
    rw [← List.drop_drop, hd2]
    exact List.drop_left' (digs_length _ _)
  have hx : (packX f).length = 1 + (f.1.flatMap numB).length + 2 + f.2.length := by
    unfold packX; simp [digs_length]; omega
  unfold tailP
  rw [hs, if_neg (by omega), if_neg (by omega), if_neg (by rw [List.length_append, hx]; omega), hd3, List.take_left, hx]
theorem cutP_back {bs : List UInt8} {ns : List Int} {d : List UInt8} {n : Nat} (h : cutP bs = (0, ns, d, n)) : packE (ns, d) = 0 ∧ n ≤ bs.length ∧ ∃ rest, bs = packX (ns, d) ++ rest ∧ n = (packX (ns, d)).length := by
  unfold cutP at h
  split at h
  · cases h
  · rename_i h0
    split at h
    · rename_i h1
      obtain ⟨ms, rest, g1, g2, g3, g4, g5⟩ := numsA_back (bs := bs) (k := (bs.getD 0 0).toNat) (p := 1) (acc := []) (Prod.ext h1 rfl)
      rw [g2, g5] at h
      generalize numsA bs (bs.getD 0 0).toNat 1 [] = r at *
      unfold tailP at h
      split at h
      · cases h
      · rename_i h2
        split at h
        · cases h
        · rename_i h3
          split at h
          · cases h
          · rename_i h4
            rw [List.nil_append] at h
            injection h with _ h
            injection h with hns h
            injection h with hd hn
            subst hns
            have hc := (bs.getD 0 0).toNat_lt
            have hdl : d.length = szP bs (1 + (ms.flatMap numB).length) := by rw [← hd, List.length_take, List.length_drop]; omega
            have e := digs_szP (bs := bs) (p := 1 + (ms.flatMap numB).length) (by omega)
            have e2 : bs.drop (1 + (ms.flatMap numB).length + 2) = d ++ bs.drop n := by
              have e0 : bs.drop n = (bs.drop (1 + (ms.flatMap numB).length + 2)).drop (szP bs (1 + (ms.flatMap numB).length)) := by rw [List.drop_drop, hn]
              rw [e0, ← hd, List.take_append_drop]
            have e1 : bs = bs.getD 0 0 :: bs.drop 1 := head_eq h0
            have e3 : bs.drop 1 = ms.flatMap numB ++ bs.drop (1 + (ms.flatMap numB).length) := by
              rw [← List.drop_drop, g4, List.drop_left]
            refine ⟨?_, by omega, bs.drop n, ?_, ?_⟩
            · unfold packE
              simp only
              rw [if_neg (by omega), if_neg]
              intro ha
              obtain ⟨m, hm, hs⟩ := List.any_eq_true.1 ha
              have := g3 m hm
              have := (sizeI_ok this.1 this.2).1
              have := of_decide_eq_true hs
              omega
            · rw [hdl.symm] at e
              have hbb : b8 ms.length = bs.getD 0 0 := UInt8.toNat_inj.1 (by rw [b8_toNat _ (by omega), g1])
              unfold packX
              simp only [hbb]
              calc bs = bs.getD 0 0 :: bs.drop 1 := e1
                _ = _ := by rw [e3, e, e2]; simp
            · have hx : (packX (ms, d)).length = 1 + (ms.flatMap numB).length + 2 + d.length := by
                unfold packX
                rw [List.length_append, List.length_append, List.length_cons, digs_length]
                simp only
                omega
              omega
    · rename_i h1
      injection h with h _
      exact (h1 h).elim
theorem cutP_short {f : Fl} (h : packE f = 0) {X Y : List UInt8} (hX : packX f = X ++ Y) (hY : 0 < Y.length) : cutP X = (3, [], [], 0) := by
  obtain ⟨h1, h2, h3⟩ := packE_zero h
  match X, hX with
  | [], _ => rfl
  | x :: X, hX =>
    have hX' : b8 f.1.length :: (f.1.flatMap numB ++ (digs f.2.length 2 ++ f.2)) = x :: (X ++ Y) := by rw [show x :: (X ++ Y) = packX f from hX.symm]; simp [packX]
    injection hX' with hx hX2
    subst hx
    have hb : (b8 f.1.length).toNat = f.1.length := b8_toNat _ (by omega)
    unfold cutP
    simp only [List.length_cons, List.getD_cons_zero, hb]
    rw [if_neg (by omega)]
    rcases List.append_eq_append_iff.1 hX2 with ⟨Z, g1, g2⟩ | ⟨Z, g1, g2⟩
    · have hA := numsA_put (bs := b8 f.1.length :: X) (p := 1) (acc := []) h3 (rest := Z) (by simpa using g1)
      rw [hA, if_pos rfl]
      simp only [List.nil_append]
      have hZ : (b8 f.1.length :: X).drop (1 + (f.1.flatMap numB).length) = Z := by rw [← List.drop_drop, List.drop_one, List.tail_cons, g1, List.drop_left]
      have hZl := congrArg List.length hZ
      have hg2 := congrArg List.length g2
      rw [List.length_drop, List.length_cons] at hZl
      rw [List.length_append, List.length_append, digs_length] at hg2
      have hXl := congrArg List.length g1
      rw [List.length_append] at hXl
      unfold tailP
      rw [List.length_cons]
      by_cases c1 : X.length + 1 < 1 + (f.1.flatMap numB).length + 2
      · rw [if_pos c1]
      · rw [if_neg c1]
        rcases List.append_eq_append_iff.1 g2 with ⟨V, v1, v2⟩ | ⟨V, v1, v2⟩
        · rw [v1] at hZ
          obtain ⟨hs, _⟩ := szP_digs (by omega) hZ
          have v2l := congrArg List.length v2
          have v1l := congrArg List.length v1
          rw [List.length_append] at v2l v1l
          rw [digs_length] at v1l
          rw [hs, if_neg (by omega), if_pos (by omega)]
        · have v1l := congrArg List.length v1
          rw [List.length_append, digs_length] at v1l
          have hV : V = [] := List.eq_nil_of_length_eq_zero (by omega)
          subst hV
          rw [List.append_nil] at v1
          obtain ⟨hs, _⟩ := szP_digs (bs := b8 f.1.length :: X) (n := f.2.length) (rest := []) (by omega) (by rw [hZ, ← v1, List.append_nil])
          simp at v2
          have v2l := congrArg List.length v2
          rw [hs, if_neg (by omega), if_pos (by omega)]
    · by_cases hZ : Z = []
      · subst hZ
        rw [List.append_nil] at g1
        have hA := numsA_put (bs := b8 f.1.length :: X) (p := 1) (acc := []) h3 (rest := []) (by simpa using g1.symm)
        rw [hA, if_pos rfl]
        have hXl := congrArg List.length g1
        unfold tailP
        simp only
        rw [List.length_cons, if_pos (by omega)]
      · have hA := numsA_short (bs := b8 f.1.length :: X) (p := 1) (acc := []) h3 (Y := Z) (by simpa using g1) (List.length_pos_iff.2 hZ)
        rw [hA, if_neg (by decide)]
end Go.Proofs.Ytipngfdibcapjaa
