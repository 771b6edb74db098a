/- What the writer comes to. Conditions: none. -/
import Derived.Test.YtnpdnkmnnmmagaaBe
set_option linter.all false
namespace Go.Ab

/-- A number's groups of seven bits, the lowest first. -/
def groups (n : Nat) : List Nat := if n < 128 then [n] else (n % 128 + 128) :: groups (n / 128)
termination_by n
decreasing_by omega
def cnt (n : Nat) : Nat := if n = 0 then 0 else (groups n).length
theorem groups_len (n : Nat) : (groups n).length = 1 + cnt (n / 128) := by
  rw [groups]; split
  · have : n / 128 = 0 := by omega
    simp [cnt, this]
  · have : n / 128 ≠ 0 := by omega
    simp only [List.length_cons, cnt, this, if_false]; omega
theorem cnt_pos {n : Nat} (h : 0 < n) : cnt n = 1 + cnt (n / 128) := by
  rw [cnt, if_neg (by omega), groups_len]
theorem cnt_zero : cnt 0 = 0 := rfl
theorem cnt_le (k : Nat) : ∀ n, n < 128 ^ k → cnt n ≤ k := by
  induction k with
  | zero => intro n hn; have : n = 0 := by simpa using hn
            subst this; simp [cnt]
  | succ k ih =>
    intro n hn
    rcases Nat.eq_zero_or_pos n with h | h
    · subst h; simp [cnt]
    · rw [cnt_pos h]; have := ih (n / 128) (by rw [Nat.pow_succ] at hn; omega); omega
theorem groups_le {n : Nat} (hn : n < 18446744073709551616) : (groups n).length ≤ 10 := by
  rw [groups_len]; have := cnt_le 9 (n / 128) (by omega); omega
theorem groups_get (i : Nat) : ∀ n, i < (groups n).length → (groups n)[i]? = some (n / 2 ^ (7 * i) % 128 + (if i + 1 < (groups n).length then 128 else 0)) := by
  induction i with
  | zero =>
    intro n _; rw [groups]; split
    · rename_i h; simp; omega
    · rename_i h
      have := groups_len (n / 128)
      simp only [List.getElem?_cons_zero, List.length_cons]; rw [if_pos (by omega)]; simp
  | succ i ih =>
    intro n hi
    rw [groups] at hi ⊢
    split
    · rename_i h; rw [if_pos h] at hi; simp at hi
    · rename_i h; rw [if_neg h] at hi
      simp only [List.length_cons] at hi
      simp only [List.getElem?_cons_succ, List.length_cons]
      rw [ih (n / 128) (by omega)]
      have e : n / 128 / 2 ^ (7 * i) = n / 2 ^ (7 * (i + 1)) := by
        rw [Nat.div_div_eq_div_mul, show 7 * (i + 1) = 7 + 7 * i by omega, Nat.pow_add]
      rw [e]; congr 2; simp
theorem groups_lt (n : Nat) : ∀ g ∈ groups n, g < 256 := by
  intro g hg
  obtain ⟨i, hi, rfl⟩ := List.getElem_of_mem hg
  have := groups_get i n hi
  rw [List.getElem?_eq_getElem hi] at this
  simp only [Option.some.injEq] at this
  rw [this]; split <;> omega

def wPut (l : List Bool) (most n : Nat) (k : Int) : Int × List Bool :=
  if k < 0 ∨ 64 < k then (11, l) else if k < 64 ∧ n / 2 ^ k.toNat ≠ 0 then (12, l) else if 8 * (most : Int) < l.length + k then (13, l) else (0, l ++ bitsOf n k.toNat)
def bytesBits (bs : List Nat) : List Bool := bs.flatMap fun b => bitsOf b 8
def wVar (l : List Bool) (most n : Nat) : Int × List Bool :=
  if 8 * most < l.length + 8 * (groups n).length then (13, l) else (0, l ++ bytesBits (groups n))
def wAlign (l : List Bool) : List Bool := l ++ List.replicate ((8 - l.length % 8) % 8) false

theorem bytesBits_length (bs : List Nat) : (bytesBits bs).length = 8 * bs.length := by
  induction bs with
  | nil => rfl
  | cons b bs ih => simp only [bytesBits, List.flatMap_cons, List.length_append, bitsOf_length, List.length_cons] at *; omega
theorem bytesBits_take {l : List Nat} {i : Nat} (h : i < l.length) : bytesBits (l.take (i + 1)) = bytesBits (l.take i) ++ bitsOf l[i] 8 := by
  rw [List.take_succ_eq_append_getElem h]
  simp only [bytesBits, List.flatMap_append, List.flatMap_cons, List.flatMap_nil, List.append_nil]
theorem wAlign_length (l : List Bool) : (wAlign l).length = (l.length + 7) / 8 * 8 := by simp [wAlign]; omega

/-- A writer. -/
structure Wr (H : Heap) (w : Nat) (v : V) (l : List Bool) (most : Nat) : Prop where
  cell : H.get w = .cells [v, .int .i64 l.length, .int .i64 (8 * (most : Int))] true
  bytes : Bytes H v (pack l)
  lt : w < H.next
  apart : ¬ sb v w
  room : l.length ≤ 8 * most
  max : most ≤ 67108864

theorem Wr.same {S : Nat → Prop} {H H' : Heap} {w : Nat} {v : V} {l : List Bool} {most : Nat} (h : Wr H w v l most) (s : Same S H H') (hs : ∀ b, wf w v b → ¬ S b) : Wr H' w v l most :=
  ⟨(s.eq w h.lt (hs w (Or.inl rfl))).trans h.cell, Own.same h.bytes s fun b hb => hs b (Or.inr hb), Nat.lt_of_lt_of_le h.lt s.le, h.apart, h.room, h.max⟩

theorem newWriter {P : Prog} (hp : HasBits P) {H : Heap} {m : Int} (hm : -9223372036854775808 ≤ m ∧ m ≤ 9223372036854775807) {Q : Out → Heap → Prop}
    (h1 : m < 0 ∨ 67108864 < m → Q (.ret (.tup [.ptr none, .int .i64 10])) H)
    (h2 : 0 ≤ m → m ≤ 67108864 → ∀ H', Wr H' H.next (.sl none 0 0 0) [] m.toNat → Same (fun _ => False) H H' → Q (.ret (.tup [.ptr (some (H.next, 0)), .int .i64 0])) H') :
    Call P 4 [.int .i64 m] H Q := by
  refine call_of hp.h_bits_NewWriter rfl ?_
  simp -implicitDefEqProofs -dsimp (disch := omega) only [go_sem, Nat.reduceEqDiff, ↓reduceIte, Nat.reduceAdd, Nat.reduceMul, Nat.reduceSub, Nat.reduceLT, Nat.reduceLeDiff, Int.reduceLT, Int.reduceLE, Int.reduceEq, Int.reduceNeg, Int.reduceAdd, Int.reduceMul, Int.reduceSub, Int.reduceToNat, reduceCtorEq, w64]
  refine lif_dec (fun h => ?_) (fun h => ?_)
  · simp -implicitDefEqProofs -dsimp (disch := omega) only [go_sem, Nat.reduceEqDiff, ↓reduceIte, Nat.reduceAdd, Nat.reduceMul, Nat.reduceSub, Nat.reduceLT, Nat.reduceLeDiff, Int.reduceLT, Int.reduceLE, Int.reduceEq, Int.reduceNeg, Int.reduceAdd, Int.reduceMul, Int.reduceSub, Int.reduceToNat, reduceCtorEq, w64, h]
    exact h1 (Or.inl h)
  · simp -implicitDefEqProofs -dsimp (disch := omega) only [go_sem, Nat.reduceEqDiff, ↓reduceIte, Nat.reduceAdd, Nat.reduceMul, Nat.reduceSub, Nat.reduceLT, Nat.reduceLeDiff, Int.reduceLT, Int.reduceLE, Int.reduceEq, Int.reduceNeg, Int.reduceAdd, Int.reduceMul, Int.reduceSub, Int.reduceToNat, reduceCtorEq, w64, h]
    refine lif_dec (fun h' => ?_) (fun h' => ?_)
    · simp -implicitDefEqProofs -dsimp (disch := omega) only [go_sem, Nat.reduceEqDiff, ↓reduceIte, Nat.reduceAdd, Nat.reduceMul, Nat.reduceSub, Nat.reduceLT, Nat.reduceLeDiff, Int.reduceLT, Int.reduceLE, Int.reduceEq, Int.reduceNeg, Int.reduceAdd, Int.reduceMul, Int.reduceSub, Int.reduceToNat, reduceCtorEq, w64]
      exact h1 (Or.inr h')
    · simp -implicitDefEqProofs -dsimp (disch := omega) only [go_sem, Nat.reduceEqDiff, ↓reduceIte, Nat.reduceAdd, Nat.reduceMul, Nat.reduceSub, Nat.reduceLT, Nat.reduceLeDiff, Int.reduceLT, Int.reduceLE, Int.reduceEq, Int.reduceNeg, Int.reduceAdd, Int.reduceMul, Int.reduceSub, Int.reduceToNat, reduceCtorEq, w64]
      refine h2 (by omega) (by omega) _ ⟨?_, own_nil _ _, ?_, fun h => h, by simp, by omega⟩ (Same.new _ _ _)
      · simp [get_new]; omega
      · simp [next_new]

theorem wLen {P : Prog} (hp : HasBits P) {H : Heap} {w : Nat} {v : V} {l : List Bool} {most : Nat} (h : Wr H w v l most) {Q : Out → Heap → Prop} (hQ : Q (.ret (.int .i64 l.length)) H) : Call P 8 [.ptr (some (w, 0))] H Q := by
  refine call_of hp.h_bits_Writer_Len rfl ?_
  simp -implicitDefEqProofs -dsimp (disch := omega) only [go_sem, Nat.reduceEqDiff, ↓reduceIte, Nat.reduceAdd, Nat.reduceMul, Nat.reduceSub, Nat.reduceLT, Nat.reduceLeDiff, Int.reduceLT, Int.reduceLE, Int.reduceEq, Int.reduceNeg, Int.reduceAdd, Int.reduceMul, Int.reduceSub, Int.reduceToNat, reduceCtorEq, rd_s h.cell]
  exact hQ

theorem wAlign_ct {P : Prog} (hp : HasBits P) {H : Heap} {w : Nat} {v : V} {l : List Bool} {most : Nat} (h : Wr H w v l most) {Q : Out → Heap → Prop}
    (hQ : ∀ H', Wr H' w v (wAlign l) most → Same (wf w v) H H' → Q (.ret (.tup [])) H') : Call P 7 [.ptr (some (w, 0))] H Q := by
  have := h.room; have := h.max
  refine call_of hp.h_bits_Writer_Align rfl ?_
  simp -implicitDefEqProofs -dsimp (disch := omega) only [go_sem, Nat.reduceEqDiff, ↓reduceIte, Nat.reduceAdd, Nat.reduceMul, Nat.reduceSub, Nat.reduceLT, Nat.reduceLeDiff, Int.reduceLT, Int.reduceLE, Int.reduceEq, Int.reduceNeg, Int.reduceAdd, Int.reduceMul, Int.reduceSub, Int.reduceToNat, reduceCtorEq, rd_s h.cell, wr_s h.cell, w64, tdivN]
  refine hQ _ ⟨?_, ?_, ?_, h.apart, ?_, h.max⟩ (Same.put (Or.inl rfl))
  · simp only [get_put, if_true, wAlign_length]; simp
  · unfold wAlign; rw [pack_align]
    exact Own.same h.bytes (Same.put (S := fun b => b = w) rfl) (fun b hb e => h.apart (e ▸ hb))
  · exact h.lt
  · rw [wAlign_length]; omega

theorem wBytes {P : Prog} (hp : HasBits P) {H : Heap} {w : Nat} {v : V} {l : List Bool} {most : Nat} (h : Wr H w v l most) {Q : Out → Heap → Prop}
    (hQ : ∀ v' H', Bytes H' v' (pack l) → Same (fun _ => False) H H' → (∀ b, sb v' b → H.next ≤ b) → Q (.ret v') H') : Call P 9 [.ptr (some (w, 0))] H Q := by
  have := h.room; have := h.max
  refine call_of hp.h_bits_Writer_Bytes rfl ?_
  have hpl := pack_length l
  obtain ⟨v', H', ha, hb, hs, hf⟩ := Bytes.app (H := H) (v := .sl none 0 0 0) (bs := []) (cs := pack l) (own_nil _ _) (firsts_arr h.bytes.arr) (by simp; omega)
  simp -implicitDefEqProofs -dsimp (disch := omega) only [go_sem, Nat.reduceEqDiff, ↓reduceIte, Nat.reduceAdd, Nat.reduceMul, Nat.reduceSub, Nat.reduceLT, Nat.reduceLeDiff, Int.reduceLT, Int.reduceLE, Int.reduceEq, Int.reduceNeg, Int.reduceAdd, Int.reduceMul, Int.reduceSub, Int.reduceToNat, reduceCtorEq, rd_s h.cell, ha]
  exact hQ v' H' hb hs fun b hb' => (hf b hb').resolve_left id

theorem wPut_ct {P : Prog} (hp : HasBits P) {H : Heap} {w : Nat} {v : V} {l : List Bool} {most n : Nat} {k : Int} (h : Wr H w v l most) (hn : n < 18446744073709551616)
    (hk : -9223372036854775808 ≤ k ∧ k ≤ 9223372036854775807) {Q : Out → Heap → Prop}
    (hQ : ∀ v' H', Wr H' w v' (wPut l most n k).2 most → Same (wf w v) H H' → (∀ b, sb v' b → sb v b ∨ H.next ≤ b) → Q (.ret (.int .i64 (wPut l most n k).1)) H') :
    Call P 5 [.ptr (some (w, 0)), .int .u64 n, .int .i64 k] H Q := by
  have := h.room; have := h.max
  refine call_of hp.h_bits_Writer_Put rfl ?_
  have same : (wPut l most n k).2 = l → Q (.ret (.int .i64 (wPut l most n k).1)) H := fun e => hQ v H (by rw [e]; exact h) (Same.refl _ _) (fun b hb => Or.inl hb)
  have bad (e : wPut l most n k = (11, l)) : Q (.ret (.int .i64 11)) H := by rw [e] at same; exact same rfl
  have full (e : wPut l most n k = (12, l)) : Q (.ret (.int .i64 12)) H := by rw [e] at same; exact same rfl
  have noroom (e : wPut l most n k = (13, l)) : Q (.ret (.int .i64 13)) H := by rw [e] at same; exact same rfl
  have hq : n / 2 ^ k.toNat < 18446744073709551616 := Nat.lt_of_le_of_lt (Nat.div_le_self _ _) hn
  refine wp_cutQ (fun fr' H' => H = H' ∧ fr' = ⟨[(0, .ptr (some (w, 0))), (1, .int .u64 n), (2, .int .i64 k)], []⟩) (by simp -implicitDefEqProofs -dsimp (disch := omega) only [go_sem, Nat.reduceEqDiff, ↓reduceIte, Nat.reduceAdd, Nat.reduceMul, Nat.reduceSub, Nat.reduceLT, Nat.reduceLeDiff, Int.reduceLT, Int.reduceLE, Int.reduceEq, Int.reduceNeg, Int.reduceAdd, Int.reduceMul, Int.reduceSub, Int.reduceToNat, reduceCtorEq, ]; exact ⟨rfl, rfl⟩) ?_
  rintro _ _ ⟨rfl, rfl⟩
  refine wp_cutQ (fun fr' H1 => H = H1 ∧ (∃ ex, fr' = ⟨(0, .ptr (some (w, 0))) :: (1, .int .u64 n) :: (2, .int .i64 k) :: ex, []⟩) ∧ 0 ≤ k ∧ k ≤ 64 ∧ wPut l most n k = (0, l ++ bitsOf n k.toNat) ∧ l.length + k ≤ 8 * (most : Int)) ?_ ?_
  · simp -implicitDefEqProofs -dsimp (disch := omega) only [go_sem, Nat.reduceEqDiff, ↓reduceIte, Nat.reduceAdd, Nat.reduceMul, Nat.reduceSub, Nat.reduceLT, Nat.reduceLeDiff, Int.reduceLT, Int.reduceLE, Int.reduceEq, Int.reduceNeg, Int.reduceAdd, Int.reduceMul, Int.reduceSub, Int.reduceToNat, reduceCtorEq, ]
    refine lif_dec (fun h1 => ?_) (fun h1 => ?_)
    · simp -implicitDefEqProofs -dsimp (disch := omega) only [go_sem, Nat.reduceEqDiff, ↓reduceIte, Nat.reduceAdd, Nat.reduceMul, Nat.reduceSub, Nat.reduceLT, Nat.reduceLeDiff, Int.reduceLT, Int.reduceLE, Int.reduceEq, Int.reduceNeg, Int.reduceAdd, Int.reduceMul, Int.reduceSub, Int.reduceToNat, reduceCtorEq, h1]
      exact bad (by rw [wPut, if_pos (Or.inl h1)])
    simp -implicitDefEqProofs -dsimp (disch := omega) only [go_sem, Nat.reduceEqDiff, ↓reduceIte, Nat.reduceAdd, Nat.reduceMul, Nat.reduceSub, Nat.reduceLT, Nat.reduceLeDiff, Int.reduceLT, Int.reduceLE, Int.reduceEq, Int.reduceNeg, Int.reduceAdd, Int.reduceMul, Int.reduceSub, Int.reduceToNat, reduceCtorEq, h1]
    refine lif_dec (fun h2 => ?_) (fun h2 => ?_)
    · simp -implicitDefEqProofs -dsimp (disch := omega) only [go_sem, Nat.reduceEqDiff, ↓reduceIte, Nat.reduceAdd, Nat.reduceMul, Nat.reduceSub, Nat.reduceLT, Nat.reduceLeDiff, Int.reduceLT, Int.reduceLE, Int.reduceEq, Int.reduceNeg, Int.reduceAdd, Int.reduceMul, Int.reduceSub, Int.reduceToNat, reduceCtorEq, ]
      exact bad (by rw [wPut, if_pos (Or.inr h2)])
    simp -implicitDefEqProofs -dsimp (disch := omega) only [go_sem, Nat.reduceEqDiff, ↓reduceIte, Nat.reduceAdd, Nat.reduceMul, Nat.reduceSub, Nat.reduceLT, Nat.reduceLeDiff, Int.reduceLT, Int.reduceLE, Int.reduceEq, Int.reduceNeg, Int.reduceAdd, Int.reduceMul, Int.reduceSub, Int.reduceToNat, reduceCtorEq, ]
    have hk0 : k = ((k.toNat : Nat) : Int) := by omega
    have e1 : ¬ (k < 0 ∨ 64 < k) := by omega
    refine lif_dec (fun h3 => ?_) (fun h3 => ?_)
    · generalize hkn : k.toNat = kn at *
      subst hk0
      simp -implicitDefEqProofs -dsimp (disch := omega) only [go_sem, Nat.reduceEqDiff, ↓reduceIte, Nat.reduceAdd, Nat.reduceMul, Nat.reduceSub, Nat.reduceLT, Nat.reduceLeDiff, Int.reduceLT, Int.reduceLE, Int.reduceEq, Int.reduceNeg, Int.reduceAdd, Int.reduceMul, Int.reduceSub, Int.reduceToNat, reduceCtorEq, h3, shr64]
      refine lif_dec (fun h4 => ?_) (fun h4 => ?_)
      · simp -implicitDefEqProofs -dsimp (disch := omega) only [go_sem, Nat.reduceEqDiff, ↓reduceIte, Nat.reduceAdd, Nat.reduceMul, Nat.reduceSub, Nat.reduceLT, Nat.reduceLeDiff, Int.reduceLT, Int.reduceLE, Int.reduceEq, Int.reduceNeg, Int.reduceAdd, Int.reduceMul, Int.reduceSub, Int.reduceToNat, reduceCtorEq, ]
        exact full (by rw [wPut, if_neg e1, Int.toNat_natCast, if_pos ⟨h3, by omega⟩])
      · have e2 : ¬ ((kn : Int) < 64 ∧ n / 2 ^ kn ≠ 0) := by omega
        simp -implicitDefEqProofs -dsimp (disch := omega) only [go_sem, Nat.reduceEqDiff, ↓reduceIte, Nat.reduceAdd, Nat.reduceMul, Nat.reduceSub, Nat.reduceLT, Nat.reduceLeDiff, Int.reduceLT, Int.reduceLE, Int.reduceEq, Int.reduceNeg, Int.reduceAdd, Int.reduceMul, Int.reduceSub, Int.reduceToNat, reduceCtorEq, rd_s h.cell, w64]
        refine lif_dec (fun h5 => ?_) (fun h5 => ?_)
        · simp -implicitDefEqProofs -dsimp (disch := omega) only [go_sem, Nat.reduceEqDiff, ↓reduceIte, Nat.reduceAdd, Nat.reduceMul, Nat.reduceSub, Nat.reduceLT, Nat.reduceLeDiff, Int.reduceLT, Int.reduceLE, Int.reduceEq, Int.reduceNeg, Int.reduceAdd, Int.reduceMul, Int.reduceSub, Int.reduceToNat, reduceCtorEq, ]
          exact noroom (by rw [wPut, if_neg e1, Int.toNat_natCast, if_neg e2, if_pos h5])
        · simp -implicitDefEqProofs -dsimp (disch := omega) only [go_sem, Nat.reduceEqDiff, ↓reduceIte, Nat.reduceAdd, Nat.reduceMul, Nat.reduceSub, Nat.reduceLT, Nat.reduceLeDiff, Int.reduceLT, Int.reduceLE, Int.reduceEq, Int.reduceNeg, Int.reduceAdd, Int.reduceMul, Int.reduceSub, Int.reduceToNat, reduceCtorEq, ]
          exact ⟨rfl, ⟨_, rfl⟩, by omega, by omega, by rw [wPut, if_neg e1, Int.toNat_natCast, if_neg e2, if_neg h5], by omega⟩
    · simp -implicitDefEqProofs -dsimp (disch := omega) only [go_sem, Nat.reduceEqDiff, ↓reduceIte, Nat.reduceAdd, Nat.reduceMul, Nat.reduceSub, Nat.reduceLT, Nat.reduceLeDiff, Int.reduceLT, Int.reduceLE, Int.reduceEq, Int.reduceNeg, Int.reduceAdd, Int.reduceMul, Int.reduceSub, Int.reduceToNat, reduceCtorEq, h3, rd_s h.cell, w64]
      refine lif_dec (fun h5 => ?_) (fun h5 => ?_)
      · simp -implicitDefEqProofs -dsimp (disch := omega) only [go_sem, Nat.reduceEqDiff, ↓reduceIte, Nat.reduceAdd, Nat.reduceMul, Nat.reduceSub, Nat.reduceLT, Nat.reduceLeDiff, Int.reduceLT, Int.reduceLE, Int.reduceEq, Int.reduceNeg, Int.reduceAdd, Int.reduceMul, Int.reduceSub, Int.reduceToNat, reduceCtorEq, ]
        exact noroom (by rw [wPut, if_neg e1, if_neg (by omega), if_pos h5])
      · simp -implicitDefEqProofs -dsimp (disch := omega) only [go_sem, Nat.reduceEqDiff, ↓reduceIte, Nat.reduceAdd, Nat.reduceMul, Nat.reduceSub, Nat.reduceLT, Nat.reduceLeDiff, Int.reduceLT, Int.reduceLE, Int.reduceEq, Int.reduceNeg, Int.reduceAdd, Int.reduceMul, Int.reduceSub, Int.reduceToNat, reduceCtorEq, ]
        exact ⟨rfl, ⟨_, rfl⟩, by omega, by omega, by rw [wPut, if_neg e1, if_neg (by omega), if_neg h5], by omega⟩
  · rintro _ _ ⟨rfl, ⟨ex, rfl⟩, h0, h64, hw, hr⟩
    obtain ⟨kn, rfl⟩ : ∃ kn : Nat, k = kn := ⟨k.toNat, by omega⟩
    rw [Int.toNat_natCast] at hw
    simp -implicitDefEqProofs -dsimp (disch := omega) only [go_sem, Nat.reduceEqDiff, ↓reduceIte, Nat.reduceAdd, Nat.reduceMul, Nat.reduceSub, Nat.reduceLT, Nat.reduceLeDiff, Int.reduceLT, Int.reduceLE, Int.reduceEq, Int.reduceNeg, Int.reduceAdd, Int.reduceMul, Int.reduceSub, Int.reduceToNat, reduceCtorEq, rd_s h.cell]
    refine lay64 hp h.bytes (show kn ≤ 64 by omega) hn (by omega) (fun v2 H2 hb2 hs2 hf2 => ?_)
    have hc2 := (hs2.eq w h.lt h.apart).trans h.cell
    obtain ⟨a, c, e', rfl⟩ := hb2.arr.shape
    have hlt2 := Nat.lt_of_lt_of_le h.lt hs2.le
    have hap2 : ¬ sb (.sl a (pack (l ++ bitsOf n kn)).length c e') w := fun hx => (hf2 w hx).elim h.apart (by have := h.lt; omega)
    have hbl := bitsOf_length n kn
    simp -implicitDefEqProofs -dsimp (disch := omega) only [go_sem, Nat.reduceEqDiff, ↓reduceIte, Nat.reduceAdd, Nat.reduceMul, Nat.reduceSub, Nat.reduceLT, Nat.reduceLeDiff, Int.reduceLT, Int.reduceLE, Int.reduceEq, Int.reduceNeg, Int.reduceAdd, Int.reduceMul, Int.reduceSub, Int.reduceToNat, reduceCtorEq, wr_s hc2, w64]
    simp only [hw] at hQ
    refine hQ _ _ ⟨?_, ?_, by simpa [next_put] using hlt2, hap2, ?_, h.max⟩ ?_ hf2
    · simp [get_put, hbl]
    · exact Own.same hb2 (Same.put (S := fun b => b = w) rfl) (fun b hb e => hap2 (e ▸ hb))
    · simp only [List.length_append, hbl]; omega
    · exact (hs2.mono fun b _ hb => Or.inr hb).trans (Same.put (S := wf w v) (Or.inl rfl)) fun _ _ h => h

def VarI (n : Nat) (w : Nat) (m : Nat) (H : Heap) (fr : Fr) (H' : Heap) : Prop :=
  ∃ g x, x = m ∧ H = H' ∧ fr = ⟨[(0, .ptr (some (w, 0))), (1, .int .u64 n), (5, .int .i64 (g : Nat)), (6, .int .u64 (x : Nat))], []⟩ ∧ g + cnt x = (groups n).length ∧ x < 18446744073709551616
def VarJ (n : Nat) (w : Nat) (v : V) (l : List Bool) (most : Nat) (H : Heap) (m : Nat) (fr : Fr) (H' : Heap) : Prop :=
  ∃ v' i, m = (groups n).length - i ∧ i ≤ (groups n).length ∧ fr = ⟨[(0, .ptr (some (w, 0))), (1, .int .u64 n), (5, .int .i64 (groups n).length), (29, .int .i64 (groups n).length), (30, .int .i64 (i : Nat))], []⟩ ∧
    Wr H' w v' (l ++ bytesBits ((groups n).take i)) most ∧ Same (wf w v) H H' ∧ ∀ b, sb v' b → sb v b ∨ H.next ≤ b

theorem wVar_ct {P : Prog} (hp : HasBits P) {H : Heap} {w : Nat} {v : V} {l : List Bool} {most n : Nat} (h : Wr H w v l most) (hn : n < 18446744073709551616) {Q : Out → Heap → Prop}
    (hQ : ∀ v' H', Wr H' w v' (wVar l most n).2 most → Same (wf w v) H H' → (∀ b, sb v' b → sb v b ∨ H.next ≤ b) → Q (.ret (.int .i64 (wVar l most n).1)) H') :
    Call P 6 [.ptr (some (w, 0)), .int .u64 n] H Q := by
  have := h.room; have := h.max
  have hG := groups_le hn
  have hG1 := groups_len n
  refine call_of hp.h_bits_Writer_Var rfl ?_
  simp -implicitDefEqProofs -dsimp (disch := omega) only [go_sem, Nat.reduceEqDiff, ↓reduceIte, Nat.reduceAdd, Nat.reduceMul, Nat.reduceSub, Nat.reduceLT, Nat.reduceLeDiff, Int.reduceLT, Int.reduceLE, Int.reduceEq, Int.reduceNeg, Int.reduceAdd, Int.reduceMul, Int.reduceSub, Int.reduceToNat, reduceCtorEq, shr64_7]
  refine loop_inv (fun m => VarI n w m H) ?_ (n / 128) _ _ ⟨1, n / 128, rfl, rfl, rfl, by omega, by omega⟩
  rintro m fr H1 ⟨g, x, rfl, rfl, rfl, hg, hx⟩
  generalize hK : rnd (fun m => VarI n w m H) x = K
  simp -implicitDefEqProofs -dsimp (disch := omega) only [go_sem, Nat.reduceEqDiff, ↓reduceIte, Nat.reduceAdd, Nat.reduceMul, Nat.reduceSub, Nat.reduceLT, Nat.reduceLeDiff, Int.reduceLT, Int.reduceLE, Int.reduceEq, Int.reduceNeg, Int.reduceAdd, Int.reduceMul, Int.reduceSub, Int.reduceToNat, reduceCtorEq, bits_Writer_Var_l1]
  have hc := cnt_pos (n := x)
  refine lif_dec (fun h1 => ?_) (fun h1 => ?_)
  · simp -implicitDefEqProofs -dsimp (disch := omega) only [go_sem, Nat.reduceEqDiff, ↓reduceIte, Nat.reduceAdd, Nat.reduceMul, Nat.reduceSub, Nat.reduceLT, Nat.reduceLeDiff, Int.reduceLT, Int.reduceLE, Int.reduceEq, Int.reduceNeg, Int.reduceAdd, Int.reduceMul, Int.reduceSub, Int.reduceToNat, reduceCtorEq, w64, shr64_7]
    subst hK
    refine rnd_n (x / 128) (by omega) ⟨g + 1, x / 128, rfl, rfl, rfl, by omega, by omega⟩
  · obtain rfl : x = 0 := by omega
    subst hK
    obtain rfl : g = (groups n).length := by simpa [cnt_zero] using hg
    simp -implicitDefEqProofs -dsimp (disch := omega) only [go_sem, Nat.reduceEqDiff, ↓reduceIte, Nat.reduceAdd, Nat.reduceMul, Nat.reduceSub, Nat.reduceLT, Nat.reduceLeDiff, Int.reduceLT, Int.reduceLE, Int.reduceEq, Int.reduceNeg, Int.reduceAdd, Int.reduceMul, Int.reduceSub, Int.reduceToNat, reduceCtorEq, rd_s h.cell, w64]
    refine lif_dec (fun h2 => ?_) (fun h2 => ?_)
    · have e : wVar l most n = (13, l) := by rw [wVar, if_pos (by omega)]
      simp -implicitDefEqProofs -dsimp (disch := omega) only [go_sem, Nat.reduceEqDiff, ↓reduceIte, Nat.reduceAdd, Nat.reduceMul, Nat.reduceSub, Nat.reduceLT, Nat.reduceLeDiff, Int.reduceLT, Int.reduceLE, Int.reduceEq, Int.reduceNeg, Int.reduceAdd, Int.reduceMul, Int.reduceSub, Int.reduceToNat, reduceCtorEq, ]
      simp only [e] at hQ
      exact hQ v H h (Same.refl _ _) (fun b hb => Or.inl hb)
    · have e : wVar l most n = (0, l ++ bytesBits (groups n)) := by rw [wVar, if_neg (by omega)]
      simp only [e] at hQ
      simp -implicitDefEqProofs -dsimp (disch := omega) only [go_sem, Nat.reduceEqDiff, ↓reduceIte, Nat.reduceAdd, Nat.reduceMul, Nat.reduceSub, Nat.reduceLT, Nat.reduceLeDiff, Int.reduceLT, Int.reduceLE, Int.reduceEq, Int.reduceNeg, Int.reduceAdd, Int.reduceMul, Int.reduceSub, Int.reduceToNat, reduceCtorEq, ]
      refine loop_inv (VarJ n w v l most H) ?_ (groups n).length _ _ ⟨v, 0, by omega, by omega, rfl, by simpa [bytesBits] using h, Same.refl _ _, fun b hb => Or.inl hb⟩
      rintro m fr H1 ⟨v1, i, hm, hi, rfl, hw, hs, hf⟩
      generalize hK : rnd (VarJ n w v l most H) m = K
      simp -implicitDefEqProofs -dsimp (disch := omega) only [go_sem, Nat.reduceEqDiff, ↓reduceIte, Nat.reduceAdd, Nat.reduceMul, Nat.reduceSub, Nat.reduceLT, Nat.reduceLeDiff, Int.reduceLT, Int.reduceLE, Int.reduceEq, Int.reduceNeg, Int.reduceAdd, Int.reduceMul, Int.reduceSub, Int.reduceToNat, reduceCtorEq, bits_Writer_Var_l0]
      refine lif_dec (fun h1 => ?_) (fun h1 => ?_)
      · have hil : i < (groups n).length := by omega
        have hgi := groups_get i n hil
        rw [List.getElem?_eq_getElem hil] at hgi
        simp only [Option.some.injEq] at hgi
        have hq : n / 2 ^ (7 * i) < 18446744073709551616 := Nat.lt_of_le_of_lt (Nat.div_le_self _ _) hn
        simp -implicitDefEqProofs -dsimp (disch := omega) only [go_sem, Nat.reduceEqDiff, ↓reduceIte, Nat.reduceAdd, Nat.reduceMul, Nat.reduceSub, Nat.reduceLT, Nat.reduceLeDiff, Int.reduceLT, Int.reduceLE, Int.reduceEq, Int.reduceNeg, Int.reduceAdd, Int.reduceMul, Int.reduceSub, Int.reduceToNat, reduceCtorEq, w64, cmul7, shr64, wrap8, and127, mod256_128]
        refine lif_join (fun fr' H' => H1 = H' ∧ ∃ ex, fr' = ⟨(0, .ptr (some (w, 0))) :: (1, .int .u64 n) :: (5, .int .i64 (groups n).length) :: (8, .int .u8 ((groups n)[i] : Nat)) :: (29, .int .i64 (groups n).length) :: (30, .int .i64 (i : Nat)) :: ex, []⟩) ?_ ?_
        · refine lif_dec (fun h3 => ?_) (fun h3 => ?_)
          · simp -implicitDefEqProofs -dsimp (disch := omega) only [go_sem, Nat.reduceEqDiff, ↓reduceIte, Nat.reduceAdd, Nat.reduceMul, Nat.reduceSub, Nat.reduceLT, Nat.reduceLeDiff, Int.reduceLT, Int.reduceLE, Int.reduceEq, Int.reduceNeg, Int.reduceAdd, Int.reduceMul, Int.reduceSub, Int.reduceToNat, reduceCtorEq, or128]
            rw [hgi, if_pos (by omega)]
            exact ⟨rfl, _, rfl⟩
          · simp -implicitDefEqProofs -dsimp (disch := omega) only [go_sem, Nat.reduceEqDiff, ↓reduceIte, Nat.reduceAdd, Nat.reduceMul, Nat.reduceSub, Nat.reduceLT, Nat.reduceLeDiff, Int.reduceLT, Int.reduceLE, Int.reduceEq, Int.reduceNeg, Int.reduceAdd, Int.reduceMul, Int.reduceSub, Int.reduceToNat, reduceCtorEq, ]
            rw [hgi, if_neg (by omega)]
            exact ⟨rfl, _, rfl⟩
        · rintro _ _ ⟨rfl, ex, rfl⟩
          have hgl := groups_lt n _ (List.getElem_mem hil)
          have hbl := bytesBits_length ((groups n).take i)
          simp only [List.length_take] at hbl
          have hr1 := hw.room
          simp -implicitDefEqProofs -dsimp (disch := omega) only [go_sem, Nat.reduceEqDiff, ↓reduceIte, Nat.reduceAdd, Nat.reduceMul, Nat.reduceSub, Nat.reduceLT, Nat.reduceLeDiff, Int.reduceLT, Int.reduceLE, Int.reduceEq, Int.reduceNeg, Int.reduceAdd, Int.reduceMul, Int.reduceSub, Int.reduceToNat, reduceCtorEq, rd_s hw.cell]
          refine lay8 hp hw.bytes (w := 8) (by omega) hgl (by omega) (fun v2 H2 hb2 hs2 hf2 => ?_)
          have hc2 := (hs2.eq w hw.lt hw.apart).trans hw.cell
          obtain ⟨a, c, e', rfl⟩ := hb2.arr.shape
          have hlt2 := Nat.lt_of_lt_of_le hw.lt hs2.le
          have hap2 : ¬ sb (.sl a _ c e') w := fun hx => (hf2 w hx).elim hw.apart (by have := hw.lt; omega)
          simp -implicitDefEqProofs -dsimp (disch := omega) only [go_sem, Nat.reduceEqDiff, ↓reduceIte, Nat.reduceAdd, Nat.reduceMul, Nat.reduceSub, Nat.reduceLT, Nat.reduceLeDiff, Int.reduceLT, Int.reduceLE, Int.reduceEq, Int.reduceNeg, Int.reduceAdd, Int.reduceMul, Int.reduceSub, Int.reduceToNat, reduceCtorEq, wr_s hc2, w64]
          subst hK
          have eb : l ++ bytesBits ((groups n).take i) ++ bitsOf (groups n)[i] 8 = l ++ bytesBits ((groups n).take (i + 1)) := by
            rw [List.append_assoc, bytesBits_take hil]
          rw [eb] at hb2 hap2 hf2 ⊢
          have hl9 : (l ++ bytesBits ((groups n).take (i + 1))).length = (l ++ bytesBits ((groups n).take i)).length + 8 := by rw [← eb, List.length_append, bitsOf_length]
          refine rnd_n ((groups n).length - (i + 1)) (by omega) ⟨_, i + 1, rfl, by omega, rfl, ⟨?_, ?_, by simpa [next_put] using hlt2, hap2, ?_, hw.max⟩, ?_, fun b hb => (hf2 b hb).elim (hf b) fun hx => Or.inr (Nat.le_trans hs.le hx)⟩
          · simp only [get_put, if_true]; rw [hl9]; rfl
          · exact Own.same hb2 (Same.put (S := fun b => b = w) rfl) (fun b hb e => hap2 (e ▸ hb))
          · have := bytesBits_length ((groups n).take (i + 1))
            simp only [List.length_take] at this
            simp only [List.length_append] at hl9 ⊢; omega
          · exact (hs.trans hs2 fun b hbl hb => (hf b hb).elim Or.inr fun hx => by omega).trans (Same.put (S := wf w v) (Or.inl rfl)) fun _ _ h => h
      · obtain rfl : i = (groups n).length := by omega
        subst hK
        simp -implicitDefEqProofs -dsimp (disch := omega) only [go_sem, Nat.reduceEqDiff, ↓reduceIte, Nat.reduceAdd, Nat.reduceMul, Nat.reduceSub, Nat.reduceLT, Nat.reduceLeDiff, Int.reduceLT, Int.reduceLE, Int.reduceEq, Int.reduceNeg, Int.reduceAdd, Int.reduceMul, Int.reduceSub, Int.reduceToNat, reduceCtorEq, ]
        rw [List.take_length] at hw
        exact hQ v1 H1 hw hs hf

end Go.Ab
