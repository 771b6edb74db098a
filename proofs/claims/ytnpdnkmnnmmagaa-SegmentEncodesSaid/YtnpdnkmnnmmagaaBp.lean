/- What was laid is told again: plain laws of bits and groups. No program. -/
import Derived.Test.YtnpdnkmnnmmagaaBl
set_option linter.all false
namespace Go.Ab

theorem bitAt_pack (l : List Bool) (k : Nat) : bitAt (pack l) k = l.getD k false := by
  unfold bitAt
  by_cases h : k / 8 < (l.length + 7) / 8
  · rw [List.getD_eq_getElem?_getD, pack_get h]
    simp only [Option.getD_some, byteAt, B]
    obtain ⟨q, r, hr, rfl⟩ : ∃ q r, r < 8 ∧ k = 8 * q + r := ⟨k / 8, k % 8, Nat.mod_lt _ (by omega), by omega⟩
    rw [show (8 * q + r) / 8 = q by omega, show (8 * q + r) % 8 = r by omega]
    rcases r with _ | _ | _ | _ | _ | _ | _ | _ | r <;> try omega
    all_goals
      simp only [Nat.zero_add, Nat.add_zero, Nat.reduceAdd, Nat.reduceSub]
      generalize l.getD (8 * q) false = b0
      generalize l.getD (8 * q + 1) false = b1
      generalize l.getD (8 * q + 2) false = b2
      generalize l.getD (8 * q + 3) false = b3
      generalize l.getD (8 * q + 4) false = b4
      generalize l.getD (8 * q + 5) false = b5
      generalize l.getD (8 * q + 6) false = b6
      generalize l.getD (8 * q + 7) false = b7
      revert b0 b1 b2 b3 b4 b5 b6 b7
      decide
  · have h1 : (pack l)[k / 8]? = none := List.getElem?_eq_none (by rw [pack_length]; omega)
    have h2 : l[k]? = none := List.getElem?_eq_none (by omega)
    rw [List.getD_eq_getElem?_getD, List.getD_eq_getElem?_getD, h1, h2]
    simp

def tv (l : List Bool) (a : Nat) : Nat → Nat
  | 0 => 0
  | w + 1 => 2 * tv l a w + (l.getD (a + w) false).toNat
theorem toldN_pack (l : List Bool) (a w : Nat) : toldN (pack l) a w = tv l a w := by
  induction w with
  | zero => rfl
  | succ w ih => rw [toldN, tv, ih, bitAt_pack]
theorem tv_congr {l m : List Bool} {a b w : Nat} (h : ∀ i, i < w → l.getD (a + i) false = m.getD (b + i) false) : tv l a w = tv m b w := by
  induction w with
  | zero => rfl
  | succ w ih => rw [tv, tv, ih fun i hi => h i (by omega), h w (by omega)]
theorem tv_cons (c : Bool) (l : List Bool) (w : Nat) : tv (c :: l) 0 (w + 1) = c.toNat * 2 ^ w + tv l 0 w := by
  induction w with
  | zero => simp [tv]
  | succ w ih =>
    rw [tv, ih, tv, Nat.zero_add, Nat.zero_add, show (c :: l).getD (w + 1) false = l.getD w false from rfl, Nat.pow_succ]
    rw [Nat.mul_add, ← Nat.mul_assoc]; rw [show 2 * c.toNat * 2 ^ w = c.toNat * (2 ^ w * 2) by rw [Nat.mul_comm 2, Nat.mul_assoc, Nat.mul_comm 2]]; omega
theorem tv_bitsOf (n w : Nat) : tv (bitsOf n w) 0 w = n % 2 ^ w := by
  induction w with
  | zero => simp [tv, Nat.mod_one]
  | succ w ih =>
    rw [bitsOf, tv_cons, ih, Nat.mod_pow_succ, ← testBit_div, Nat.mul_comm, Nat.add_comm]
theorem tv_app (p q : List Bool) (n w : Nat) : tv (p ++ bitsOf n w ++ q) p.length w = n % 2 ^ w := by
  rw [← tv_bitsOf]
  refine tv_congr fun i hi => ?_
  have hl := bitsOf_length n w
  simp only [List.getD_eq_getElem?_getD]
  rw [List.append_assoc, List.getElem?_append_right (by omega), List.getElem?_append_left (by omega)]
  simp
theorem told_app (p q : List Bool) (n w : Nat) : toldN (pack (p ++ bitsOf n w ++ q)) p.length w = n % 2 ^ w := by rw [toldN_pack, tv_app]

theorem bytesBits_get {bs : List Nat} {i : Nat} (h : i < bs.length) : ∃ p q, bytesBits bs = p ++ bitsOf bs[i] 8 ++ q ∧ p.length = 8 * i := by
  refine ⟨bytesBits (bs.take i), bytesBits (bs.drop (i + 1)), ?_, by rw [bytesBits_length, List.length_take]; omega⟩
  rw [← bytesBits_take h]
  simp only [bytesBits, ← List.flatMap_append, List.take_append_drop]
theorem told_bytes {l p q : List Bool} {bs : List Nat} (e : l = p ++ bytesBits bs ++ q) (hs : ∀ b ∈ bs, b < 256) {i : Nat} (h : i < bs.length) : toldN (pack l) (p.length + 8 * i) 8 = bs[i] := by
  obtain ⟨x, y, e2, hx⟩ := bytesBits_get h
  rw [e, e2, show p ++ (x ++ bitsOf bs[i] 8 ++ y) ++ q = (p ++ x) ++ bitsOf bs[i] 8 ++ (y ++ q) by simp [List.append_assoc], ← hx, ← List.length_append, told_app]
  exact Nat.mod_eq_of_lt (hs _ (List.getElem_mem h))
theorem byte_bits : ∀ x, x < 256 → 2 * (2 * (2 * (2 * (2 * (2 * (2 * (x.testBit 7).toNat + (x.testBit 6).toNat) + (x.testBit 5).toNat) + (x.testBit 4).toNat) + (x.testBit 3).toNat) + (x.testBit 2).toNat) + (x.testBit 1).toNat) + (x.testBit 0).toNat = x := by decide +kernel
theorem told8_byte {bs : List Nat} {i : Nat} (h : i < bs.length) (hs : ∀ b ∈ bs, b < 256) : toldN bs (8 * i) 8 = bs[i] := by
  have hb : bs[i] < 256 := hs _ (List.getElem_mem h)
  have key : ∀ j, j < 8 → bitAt bs (8 * i + j) = bs[i].testBit (7 - j) := fun j hj => by
    unfold bitAt; rw [show (8 * i + j) / 8 = i by omega, show (8 * i + j) % 8 = j by omega, List.getD_eq_getElem?_getD, List.getElem?_eq_getElem h]; rfl
  simp only [toldN, key 0 (by omega), key 1 (by omega), key 2 (by omega), key 3 (by omega), key 4 (by omega), key 5 (by omega), key 6 (by omega), key 7 (by omega), Nat.mul_zero, Nat.zero_add, Nat.add_zero, Nat.reduceSub]
  have k1 := key 0 (by omega); rw [Nat.add_zero] at k1; rw [k1]
  exact byte_bits _ hb
theorem pack_bytes {bs : List Nat} (hs : ∀ b ∈ bs, b < 256) : pack (bytesBits bs) = bs := by
  have hl : (pack (bytesBits bs)).length = bs.length := by rw [pack_length, bytesBits_length]; omega
  refine List.ext_getElem hl fun i h1 h2 => ?_
  have := told_bytes (l := bytesBits bs) (p := []) (q := []) (by simp) hs h2
  rw [← this, List.length_nil, Nat.zero_add, told8_byte h1 (pack_lt _)]

theorem groups_top (i : Nat) : ∀ n, i < (groups n).length → 0 < i → 0 < n / 2 ^ (7 * i) := by
  induction i with
  | zero => intro n _ h; omega
  | succ i ih =>
    intro n hi _
    rw [groups] at hi
    split at hi
    · simp at hi
    · rename_i h
      simp only [List.length_cons] at hi
      rw [show 7 * (i + 1) = 7 + 7 * i by omega, Nat.pow_add, ← Nat.div_div_eq_div_mul]
      rcases Nat.eq_zero_or_pos i with h0 | h0
      · subst h0; simp; omega
      · exact ih (n / 2 ^ 7) (by simpa using hi) h0
theorem groups_max (n : Nat) : n < 2 ^ (7 * (groups n).length) := by
  induction n using Nat.strongRecOn with
  | ind n ih =>
    rw [groups]
    split
    · rename_i h; simpa using h
    · have := ih (n / 128) (by omega)
      rw [List.length_cons, Nat.mul_add, Nat.pow_add]; omega
theorem groups_low {n i : Nat} (h : i + 1 < (groups n).length) : 128 ≤ ((groups n)[i]'(by omega)) := by
  have := groups_get i n (by omega)
  rw [List.getElem?_eq_getElem (by omega), if_pos h] at this
  simp only [Option.some.injEq] at this; omega
theorem mod_next (n i : Nat) : n % 2 ^ (7 * i) + n / 2 ^ (7 * i) % 128 * 2 ^ (7 * i) = n % 2 ^ (7 * (i + 1)) := by
  rw [Nat.mul_add, Nat.pow_add, Nat.mod_mul, Nat.mul_comm (n / _ % 128)]

theorem rVarF_go {bs : List Nat} {a n : Nat} (hn : n < 18446744073709551616) (hl : a + 8 * (groups n).length ≤ 8 * bs.length)
    (ht : ∀ i, (h : i < (groups n).length) → toldN bs (a + 8 * i) 8 = (groups n)[i]) : ∀ f i, i < (groups n).length → f + i = 10 → rVarF bs a f i (n % 2 ^ (7 * i)) (a + 8 * i) = (n, 0, a + 8 * (groups n).length) := by
  have h10 := groups_le hn
  intro f
  induction f with
  | zero => intro i hi hf; omega
  | succ f ih =>
    intro i hi hf
    rw [rVarF, if_neg (by omega), ht i hi]
    have hg := groups_get i n hi
    rw [List.getElem?_eq_getElem hi] at hg
    simp only [Option.some.injEq] at hg
    have htop := groups_top i n hi
    have hacc := mod_next n i
    by_cases hlast : i + 1 < (groups n).length
    · rw [if_pos hlast] at hg
      rw [if_neg (by omega), if_neg (by omega), hg]
      rw [show (n / 2 ^ (7 * i) % 128 + 128) % 128 = n / 2 ^ (7 * i) % 128 by omega, hacc, show a + 8 * i + 8 = a + 8 * (i + 1) by omega]
      exact ih (i + 1) hlast (by omega)
    · rw [if_neg hlast] at hg
      have he : i + 1 = (groups n).length := by omega
      have hmax := groups_max n
      rw [← he] at hmax
      have hdiv : n / 2 ^ (7 * i) < 128 := by
        rw [Nat.div_lt_iff_lt_mul (Nat.pow_pos (by omega))]
        rwa [Nat.mul_add, Nat.pow_add, Nat.mul_comm] at hmax
      rw [Nat.mod_eq_of_lt hdiv, Nat.add_zero] at hg
      have h9 : i = 9 → n / 2 ^ (7 * i) ≤ 1 := fun h => by subst h; omega
      rw [if_neg, if_pos (by omega), hg]
      · rw [hacc, Nat.mod_eq_of_lt hmax, ← he]
        congr 2
      · rw [hg]
        rintro (⟨h1, h2⟩ | ⟨h1, h2⟩)
        · have := h9 h1; omega
        · have := htop h1; omega
theorem rVar_go {bs : List Nat} {a n : Nat} (hn : n < 18446744073709551616) (hl : a + 8 * (groups n).length ≤ 8 * bs.length)
    (ht : ∀ i, (h : i < (groups n).length) → toldN bs (a + 8 * i) 8 = (groups n)[i]) : rVar bs a = (n, 0, a + 8 * (groups n).length) := by
  have h1 := groups_len n
  have := rVarF_go hn hl ht 10 0 (by omega) rfl
  simpa [rVar, Nat.mod_one] using this
theorem rVar_pack {l p q : List Bool} {n : Nat} (e : l = p ++ bytesBits (groups n) ++ q) (hn : n < 18446744073709551616) : rVar (pack l) p.length = (n, 0, p.length + 8 * (groups n).length) := by
  refine rVar_go hn ?_ fun i h => told_bytes e (groups_lt n) h
  rw [pack_length, e]; simp only [List.length_append, bytesBits_length]; omega

theorem rVarF_short {bs gs : List Nat} {n k a : Nat} (hk : k < (groups n).length) (hl : 8 * bs.length < a + 8 * k + 8) (hl2 : a + 8 * k ≤ 8 * bs.length)
    (ht : ∀ i, (h : i < k) → toldN bs (a + 8 * i) 8 = (groups n)[i]) (h10 : (groups n).length ≤ 10) : ∀ f i, i ≤ k → f + i = 10 → ∀ acc, rVarF bs a f i acc (a + 8 * i) = (0, 14, a) := by
  intro f
  induction f with
  | zero => intro i hi hf; omega
  | succ f ih =>
    intro i hi hf acc
    rw [rVarF]
    by_cases h : i = k
    · rw [if_pos (by omega)]
    · have hik : i < k := by omega
      have hlow := groups_low (n := n) (i := i) (by omega)
      rw [if_neg (by omega), ht i hik, if_neg (by omega), if_neg (by omega)]
      exact ih (i + 1) (by omega) (by omega) _
/-- A number's groups, cut. -/
theorem rVar_cut {n k : Nat} (hn : n < 18446744073709551616) (hk : k < (groups n).length) : rVar ((groups n).take k) 0 = (0, 14, 0) := by
  have h10 := groups_le hn
  have hl : ((groups n).take k).length = k := by rw [List.length_take]; omega
  have := rVarF_short (bs := (groups n).take k) (gs := []) (a := 0) hk (by omega) (by omega) (fun i h => by
    have := told8_byte (bs := (groups n).take k) (i := i) (by omega) (fun b hb => groups_lt n b (List.mem_of_mem_take hb))
    rw [Nat.zero_add, this, List.getElem_take]) h10 10 0 (by omega) rfl 0
  simpa [rVar] using this
end Go.Ab
