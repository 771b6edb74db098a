/- What the reference's writer comes to: the same as the writer. Conditions: none. -/
import Derived.Test.YtnpdnkmnnmmagaaBg
import Derived.Test.YtnpdnkmnnmmagaaPRefBits
set_option linter.all false
namespace Go.Ab

def ints (l : List Bool) : List V := l.map fun b => .int .i64 (b.toNat : Nat)
theorem ints_snoc (l : List Bool) (c : Bool) : ints (l ++ [c]) = ints l ++ [.int .i64 (c.toNat : Nat)] := by simp [ints]
/-- The reference's writer. -/
structure RW (H : Heap) (w : Nat) (v : V) (l : List Bool) (most : Nat) : Prop where
  cell : H.get w = .cells [.int .i64 most, v] true
  list : Own H v 1 l.length (ints l)
  lt : w < H.next
  apart : ¬ sb v w
  room : l.length ≤ 8 * most
  max : most ≤ 67108864
theorem RW.same {S : Nat → Prop} {H H' : Heap} {w : Nat} {v : V} {l : List Bool} {most : Nat} (h : RW H w v l most) (s : Same S H H') (hs : ∀ b, wf w v b → ¬ S b) : RW H' w v l most :=
  ⟨(s.eq w h.lt (hs w (Or.inl rfl))).trans h.cell, Own.same h.list s fun b hb => hs b (Or.inr hb), Nat.lt_of_lt_of_le h.lt s.le, h.apart, h.room, h.max⟩
/-- A bit is laid behind, and the list is told. -/
theorem RW.push {H H2 : Heap} {w : Nat} {v v2 : V} {l : List Bool} {most : Nat} (h : RW H w v l most) {c : Bool} (hr : l.length + 1 ≤ 8 * most)
    (hb : Own H2 v2 1 (l.length + 1) (ints l ++ [.int .i64 (c.toNat : Nat)])) (hs : Same (sb v) H H2) (hf : ∀ b, sb v2 b → sb v b ∨ H.next ≤ b) :
    H2.get w = .cells [.int .i64 most, v] true ∧ RW (H2.put w (.cells [.int .i64 most, v2] true)) w v2 (l ++ [c]) most ∧ Same (wf w v) H (H2.put w (.cells [.int .i64 most, v2] true)) := by
  have hap : ¬ sb v2 w := fun hx => (hf w hx).elim h.apart (by have := h.lt; omega)
  refine ⟨(hs.eq w h.lt h.apart).trans h.cell, ⟨by simp [get_put], ?_, Nat.lt_of_lt_of_le h.lt hs.le, hap, by simpa using hr, h.max⟩, ?_⟩
  · rw [ints_snoc, List.length_append]
    exact Own.same hb (Same.put (S := fun b => b = w) rfl) (fun b hb e => hap (e ▸ hb))
  · exact (hs.mono fun b _ hb => (Or.inr hb : wf w v b)).trans (Same.put (S := wf w v) (Or.inl rfl)) fun _ _ h => h

def RPutI (H : Heap) (w : Nat) (v : V) (l : List Bool) (most n k : Nat) (m : Nat) (fr : Fr) (H' : Heap) : Prop :=
  ∃ v' dn, fr = ⟨[(0, .ptr (some (w, 0))), (1, .int .u64 n), (7, .int .i64 ((m : Int) - 1))], []⟩ ∧ m ≤ 64 ∧ dn ++ bitsOf n m = bitsOf n k ∧ RW H' w v' (l ++ dn) most ∧ l.length + dn.length + m ≤ 8 * most ∧
    Same (wf w v) H H' ∧ ∀ b, sb v' b → sb v b ∨ H.next ≤ b

theorem rwPut_ct {P : Prog} (hp : HasRefBits P) {H : Heap} {w : Nat} {v : V} {l : List Bool} {most n : Nat} {k : Int} (h : RW H w v l most) (hn : n < 18446744073709551616)
    (hk : -9223372036854775808 ≤ k ∧ k ≤ 9223372036854775807) {Q : Out → Heap → Prop}
    (hQ : ∀ v' H', RW H' w v' (wPut l most n k).2 most → Same (wf w v) H H' → (∀ b, sb v' b → sb v b ∨ H.next ≤ b) → Q (.ret (.int .i64 (wPut l most n k).1)) H') :
    Call P 17 [.ptr (some (w, 0)), .int .u64 n, .int .i64 k] H Q := by
  have := h.room; have := h.max
  refine call_of hp.h_burinref1_Writer_Put rfl ?_
  have same : (wPut l most n k).2 = l → Q (.ret (.int .i64 (wPut l most n k).1)) H := fun e => hQ v H (by rw [e]; exact h) (Same.refl _ _) (fun b hb => Or.inl hb)
  have bad (e : wPut l most n k = (11, l)) : Q (.ret (.int .i64 11)) H := by rw [e] at same; exact same rfl
  have full (e : wPut l most n k = (12, l)) : Q (.ret (.int .i64 12)) H := by rw [e] at same; exact same rfl
  have noroom (e : wPut l most n k = (13, l)) : Q (.ret (.int .i64 13)) H := by rw [e] at same; exact same rfl
  have hq : n / 2 ^ k.toNat < 18446744073709551616 := Nat.lt_of_le_of_lt (Nat.div_le_self _ _) hn
  obtain ⟨x, c, e', rfl⟩ := h.list.arr.shape
  refine wp_cutQ (fun fr' H' => H = H' ∧ fr' = ⟨[(0, .ptr (some (w, 0))), (1, .int .u64 n), (2, .int .i64 k)], []⟩) (by simp -implicitDefEqProofs -dsimp (disch := omega) only [go_sem, Nat.reduceEqDiff, ↓reduceIte, Nat.reduceAdd, Nat.reduceMul, Nat.reduceSub, Nat.reduceLT, Nat.reduceLeDiff, Int.reduceLT, Int.reduceLE, Int.reduceEq, Int.reduceNeg, Int.reduceAdd, Int.reduceMul, Int.reduceSub, Int.reduceToNat, reduceCtorEq, ]; exact ⟨rfl, rfl⟩) ?_
  rintro _ _ ⟨rfl, rfl⟩
  refine wp_cutQ (fun fr' H' => H = H' ∧ (∃ ex, fr' = ⟨(0, .ptr (some (w, 0))) :: (1, .int .u64 n) :: (2, .int .i64 k) :: ex, []⟩) ∧ 0 ≤ k ∧ k ≤ 64) ?_ ?_
  · simp -implicitDefEqProofs -dsimp (disch := omega) only [go_sem, Nat.reduceEqDiff, ↓reduceIte, Nat.reduceAdd, Nat.reduceMul, Nat.reduceSub, Nat.reduceLT, Nat.reduceLeDiff, Int.reduceLT, Int.reduceLE, Int.reduceEq, Int.reduceNeg, Int.reduceAdd, Int.reduceMul, Int.reduceSub, Int.reduceToNat, reduceCtorEq, ]
    refine lif_dec (fun h1 => ?_) (fun h1 => ?_)
    · simp -implicitDefEqProofs -dsimp (disch := omega) only [go_sem, Nat.reduceEqDiff, ↓reduceIte, Nat.reduceAdd, Nat.reduceMul, Nat.reduceSub, Nat.reduceLT, Nat.reduceLeDiff, Int.reduceLT, Int.reduceLE, Int.reduceEq, Int.reduceNeg, Int.reduceAdd, Int.reduceMul, Int.reduceSub, Int.reduceToNat, reduceCtorEq, h1]
      exact bad (by rw [wPut, if_pos (Or.inl h1)])
    simp -implicitDefEqProofs -dsimp (disch := omega) only [go_sem, Nat.reduceEqDiff, ↓reduceIte, Nat.reduceAdd, Nat.reduceMul, Nat.reduceSub, Nat.reduceLT, Nat.reduceLeDiff, Int.reduceLT, Int.reduceLE, Int.reduceEq, Int.reduceNeg, Int.reduceAdd, Int.reduceMul, Int.reduceSub, Int.reduceToNat, reduceCtorEq, h1]
    refine lif_dec (fun h2 => ?_) (fun h2 => ?_)
    · simp -implicitDefEqProofs -dsimp (disch := omega) only [go_sem, Nat.reduceEqDiff, ↓reduceIte, Nat.reduceAdd, Nat.reduceMul, Nat.reduceSub, Nat.reduceLT, Nat.reduceLeDiff, Int.reduceLT, Int.reduceLE, Int.reduceEq, Int.reduceNeg, Int.reduceAdd, Int.reduceMul, Int.reduceSub, Int.reduceToNat, reduceCtorEq, ]
      exact bad (by rw [wPut, if_pos (Or.inr h2)])
    simp -implicitDefEqProofs -dsimp (disch := omega) only [go_sem, Nat.reduceEqDiff, ↓reduceIte, Nat.reduceAdd, Nat.reduceMul, Nat.reduceSub, Nat.reduceLT, Nat.reduceLeDiff, Int.reduceLT, Int.reduceLE, Int.reduceEq, Int.reduceNeg, Int.reduceAdd, Int.reduceMul, Int.reduceSub, Int.reduceToNat, reduceCtorEq, ]
    exact ⟨rfl, ⟨_, rfl⟩, by omega, by omega⟩
  rintro _ _ ⟨rfl, ⟨ex, rfl⟩, h0, h64⟩
  have e1 : ¬ (k < 0 ∨ 64 < k) := by omega
  refine wp_cutQ (fun fr' H' => H = H' ∧ (∃ ex, fr' = ⟨(0, .ptr (some (w, 0))) :: (1, .int .u64 n) :: (2, .int .i64 k) :: ex, []⟩) ∧ 0 ≤ k ∧ k ≤ 64 ∧ ¬ (k < 64 ∧ n / 2 ^ k.toNat ≠ 0)) ?_ ?_
  · simp -implicitDefEqProofs -dsimp (disch := omega) only [go_sem, Nat.reduceEqDiff, ↓reduceIte, Nat.reduceAdd, Nat.reduceMul, Nat.reduceSub, Nat.reduceLT, Nat.reduceLeDiff, Int.reduceLT, Int.reduceLE, Int.reduceEq, Int.reduceNeg, Int.reduceAdd, Int.reduceMul, Int.reduceSub, Int.reduceToNat, reduceCtorEq, ]
    have hk0 : k = ((k.toNat : Nat) : Int) := by omega
    refine lif_dec (fun h3 => ?_) (fun h3 => ?_)
    · generalize hkn : k.toNat = kn at *
      subst hk0
      simp -implicitDefEqProofs -dsimp (disch := omega) only [go_sem, Nat.reduceEqDiff, ↓reduceIte, Nat.reduceAdd, Nat.reduceMul, Nat.reduceSub, Nat.reduceLT, Nat.reduceLeDiff, Int.reduceLT, Int.reduceLE, Int.reduceEq, Int.reduceNeg, Int.reduceAdd, Int.reduceMul, Int.reduceSub, Int.reduceToNat, reduceCtorEq, h3, shr64, wu64]
      refine lif_dec (fun h4 => ?_) (fun h4 => ?_)
      · simp -implicitDefEqProofs -dsimp (disch := omega) only [go_sem, Nat.reduceEqDiff, ↓reduceIte, Nat.reduceAdd, Nat.reduceMul, Nat.reduceSub, Nat.reduceLT, Nat.reduceLeDiff, Int.reduceLT, Int.reduceLE, Int.reduceEq, Int.reduceNeg, Int.reduceAdd, Int.reduceMul, Int.reduceSub, Int.reduceToNat, reduceCtorEq, ]
        exact full (by rw [wPut, if_neg e1, Int.toNat_natCast, if_pos ⟨h3, fun hx => by rw [hx] at h4; exact absurd h4 (by decide)⟩])
      · simp -implicitDefEqProofs -dsimp (disch := omega) only [go_sem, Nat.reduceEqDiff, ↓reduceIte, Nat.reduceAdd, Nat.reduceMul, Nat.reduceSub, Nat.reduceLT, Nat.reduceLeDiff, Int.reduceLT, Int.reduceLE, Int.reduceEq, Int.reduceNeg, Int.reduceAdd, Int.reduceMul, Int.reduceSub, Int.reduceToNat, reduceCtorEq, ]
        exact ⟨rfl, ⟨_, rfl⟩, by omega, by omega, fun hx => h4 (Int.ofNat_lt.2 (Nat.pos_of_ne_zero hx.2))⟩
    · simp -implicitDefEqProofs -dsimp (disch := omega) only [go_sem, Nat.reduceEqDiff, ↓reduceIte, Nat.reduceAdd, Nat.reduceMul, Nat.reduceSub, Nat.reduceLT, Nat.reduceLeDiff, Int.reduceLT, Int.reduceLE, Int.reduceEq, Int.reduceNeg, Int.reduceAdd, Int.reduceMul, Int.reduceSub, Int.reduceToNat, reduceCtorEq, h3]
      exact ⟨rfl, ⟨_, rfl⟩, by omega, by omega, fun hx => hx.1⟩
  · rintro _ _ ⟨rfl, ⟨ex, rfl⟩, h0, h64, hv⟩
    obtain ⟨kn, rfl⟩ : ∃ kn : Nat, k = kn := ⟨k.toNat, by omega⟩
    rw [Int.toNat_natCast] at hv
    have e1 : ¬ ((kn : Int) < 0 ∨ 64 < (kn : Int)) := by omega
    simp -implicitDefEqProofs -dsimp (disch := omega) only [go_sem, Nat.reduceEqDiff, ↓reduceIte, Nat.reduceAdd, Nat.reduceMul, Nat.reduceSub, Nat.reduceLT, Nat.reduceLeDiff, Int.reduceLT, Int.reduceLE, Int.reduceEq, Int.reduceNeg, Int.reduceAdd, Int.reduceMul, Int.reduceSub, Int.reduceToNat, reduceCtorEq, rd_s h.cell, w64]
    refine lif_dec (fun h5 => ?_) (fun h5 => ?_)
    · simp -implicitDefEqProofs -dsimp (disch := omega) only [go_sem, Nat.reduceEqDiff, ↓reduceIte, Nat.reduceAdd, Nat.reduceMul, Nat.reduceSub, Nat.reduceLT, Nat.reduceLeDiff, Int.reduceLT, Int.reduceLE, Int.reduceEq, Int.reduceNeg, Int.reduceAdd, Int.reduceMul, Int.reduceSub, Int.reduceToNat, reduceCtorEq, ]
      exact noroom (by rw [wPut, if_neg e1, Int.toNat_natCast, if_neg hv, if_pos h5])
    · have e : wPut l most n kn = (0, l ++ bitsOf n kn) := by rw [wPut, if_neg e1, Int.toNat_natCast, if_neg hv, if_neg h5]
      simp only [e] at hQ
      simp -implicitDefEqProofs -dsimp (disch := omega) only [go_sem, Nat.reduceEqDiff, ↓reduceIte, Nat.reduceAdd, Nat.reduceMul, Nat.reduceSub, Nat.reduceLT, Nat.reduceLeDiff, Int.reduceLT, Int.reduceLE, Int.reduceEq, Int.reduceNeg, Int.reduceAdd, Int.reduceMul, Int.reduceSub, Int.reduceToNat, reduceCtorEq, w64]
      refine loop_inv (RPutI H w _ l most n kn) ?_ kn _ _ ⟨_, [], rfl, by omega, rfl, by simpa using h, by simp; omega, Same.refl _ _, fun b hb => Or.inl hb⟩
      rintro m fr H1 ⟨v1, dn, rfl, hm, hd, hw, hr, hs, hf⟩
      generalize hK : rnd (RPutI H w _ l most n kn) m = K
      simp -implicitDefEqProofs -dsimp (disch := omega) only [go_sem, Nat.reduceEqDiff, ↓reduceIte, Nat.reduceAdd, Nat.reduceMul, Nat.reduceSub, Nat.reduceLT, Nat.reduceLeDiff, Int.reduceLT, Int.reduceLE, Int.reduceEq, Int.reduceNeg, Int.reduceAdd, Int.reduceMul, Int.reduceSub, Int.reduceToNat, reduceCtorEq, w64, burinref1_Writer_Put_l0]
      refine lif_dec (fun h6 => ?_) (fun h6 => ?_)
      · obtain ⟨m, rfl⟩ : ∃ j, m = j + 1 := ⟨m - 1, by omega⟩
        have em : ((m + 1 : Nat) : Int) - 1 = m := by omega
        have hc := Bool.toNat_le (n.testBit m)
        have hdl : (l ++ dn).length = l.length + dn.length := List.length_append
        obtain ⟨v2, H2, ha, hb2, hs2, hf2⟩ := app_one (eb := 8) (m := 1) (M := [.int .i64 ((n.testBit m).toNat : Nat)]) hw.list rfl rfl (by omega) (by omega)
        obtain ⟨x2, c2, e2, rfl⟩ := hb2.arr.shape
        obtain ⟨hc2, hrw, hss⟩ := hw.push (by omega) hb2 hs2 hf2
        simp -implicitDefEqProofs -dsimp (disch := omega) only [go_sem, Nat.reduceEqDiff, ↓reduceIte, Nat.reduceAdd, Nat.reduceMul, Nat.reduceSub, Nat.reduceLT, Nat.reduceLeDiff, Int.reduceLT, Int.reduceLE, Int.reduceEq, Int.reduceNeg, Int.reduceAdd, Int.reduceMul, Int.reduceSub, Int.reduceToNat, reduceCtorEq, w64, em, wu64, rd_s hw.cell, shr64, bit64, ha, wr_s hc2]
        subst hK
        refine rnd_n m (by omega) ⟨_, dn ++ [n.testBit m], rfl, by omega, by rw [List.append_assoc]; exact hd, by rw [← List.append_assoc]; exact hrw, by simp; omega, ?_, fun b hb => (hf2 b hb).elim (hf b) fun hx => Or.inr (Nat.le_trans hs.le hx)⟩
        exact hs.trans hss fun b hbl hb => hb.elim Or.inl fun hx => (hf b hx).elim Or.inr fun hy => by omega
      · obtain rfl : m = 0 := by omega
        subst hK
        simp -implicitDefEqProofs -dsimp (disch := omega) only [go_sem, Nat.reduceEqDiff, ↓reduceIte, Nat.reduceAdd, Nat.reduceMul, Nat.reduceSub, Nat.reduceLT, Nat.reduceLeDiff, Int.reduceLT, Int.reduceLE, Int.reduceEq, Int.reduceNeg, Int.reduceAdd, Int.reduceMul, Int.reduceSub, Int.reduceToNat, reduceCtorEq, ]
        have hd' : dn = bitsOf n kn := by simpa [bitsOf] using hd
        exact hQ v1 H1 (hd' ▸ hw) hs hf

def GroupsI (H : Heap) (n : Nat) (m : Nat) (fr : Fr) (H' : Heap) : Prop :=
  ∃ v dn, fr = ⟨[(0, .int .u64 m), (3, v)], []⟩ ∧ m < 18446744073709551616 ∧ dn ++ groups m = groups n ∧ Bytes H' v dn ∧ Same (fun _ => False) H H' ∧ ∀ b, sb v b → H.next ≤ b
theorem groups_ct {P : Prog} (hp : HasRefBits P) {H : Heap} {n : Nat} (hn : n < 18446744073709551616) {Q : Out → Heap → Prop}
    (hQ : ∀ v H', Bytes H' v (groups n) → Same (fun _ => False) H H' → (∀ b, sb v b → H.next ≤ b) → Q (.ret v) H') : Call P 18 [.int .u64 n] H Q := by
  have hG := groups_le hn
  refine call_of hp.h_burinref1_Groups rfl ?_
  simp -implicitDefEqProofs -dsimp (disch := omega) only [go_sem, Nat.reduceEqDiff, ↓reduceIte, Nat.reduceAdd, Nat.reduceMul, Nat.reduceSub, Nat.reduceLT, Nat.reduceLeDiff, Int.reduceLT, Int.reduceLE, Int.reduceEq, Int.reduceNeg, Int.reduceAdd, Int.reduceMul, Int.reduceSub, Int.reduceToNat, reduceCtorEq, ]
  refine loop_inv (GroupsI H n) ?_ n _ _ ⟨_, [], rfl, hn, rfl, own_nil _ _, Same.refl _ _, fun b hb => hb.elim⟩
  rintro m fr H1 ⟨v1, dn, rfl, hm, hd, hb, hs, hf⟩
  have hdl : dn.length ≤ 10 := by have := congrArg List.length hd; simp only [List.length_append] at this; omega
  generalize hK : rnd (GroupsI H n) m = K
  simp -implicitDefEqProofs -dsimp (disch := omega) only [go_sem, Nat.reduceEqDiff, ↓reduceIte, Nat.reduceAdd, Nat.reduceMul, Nat.reduceSub, Nat.reduceLT, Nat.reduceLeDiff, Int.reduceLT, Int.reduceLE, Int.reduceEq, Int.reduceNeg, Int.reduceAdd, Int.reduceMul, Int.reduceSub, Int.reduceToNat, reduceCtorEq, burinref1_Groups_l0]
  refine lif_dec (fun h1 => ?_) (fun h1 => ?_)
  · obtain ⟨v2, H2, ha, hb2, hs2, hf2⟩ := hb.push (m % 128 + 128) (by omega)
    simp -implicitDefEqProofs -dsimp (disch := omega) only [go_sem, Nat.reduceEqDiff, ↓reduceIte, Nat.reduceAdd, Nat.reduceMul, Nat.reduceSub, Nat.reduceLT, Nat.reduceLeDiff, Int.reduceLT, Int.reduceLE, Int.reduceEq, Int.reduceNeg, Int.reduceAdd, Int.reduceMul, Int.reduceSub, Int.reduceToNat, reduceCtorEq, tmodN, tdivN, wu64, cmod128, cdiv128, wrap8, mod128_256, cadd128, wu8, ha]
    subst hK
    refine rnd_n (m / 128) (by omega) ⟨v2, dn ++ [m % 128 + 128], rfl, by omega, ?_, hb2, hs.trans hs2 fun b hbl hb => absurd (hf b hb) (by omega), fun b hb => (hf2 b hb).elim (hf b) fun hx => Nat.le_trans hs.le hx⟩
    have eg : groups m = (m % 128 + 128) :: groups (m / 128) := by rw [groups, if_neg (by omega)]
    rw [← hd, eg, List.append_assoc]; rfl
  · have hm8 : m < 128 := by omega
    obtain ⟨v2, H2, ha, hb2, hs2, hf2⟩ := hb.push m (by omega)
    subst hK
    simp -implicitDefEqProofs -dsimp (disch := omega) only [go_sem, Nat.reduceEqDiff, ↓reduceIte, Nat.reduceAdd, Nat.reduceMul, Nat.reduceSub, Nat.reduceLT, Nat.reduceLeDiff, Int.reduceLT, Int.reduceLE, Int.reduceEq, Int.reduceNeg, Int.reduceAdd, Int.reduceMul, Int.reduceSub, Int.reduceToNat, reduceCtorEq, wu8, ha]
    have e : dn ++ [m] = groups n := by rw [← hd, groups, if_pos hm8]
    exact hQ v2 H2 (e ▸ hb2) (hs.trans hs2 fun b hbl hb => absurd (hf b hb) (by omega)) fun b hb => (hf2 b hb).elim (hf b) fun hx => Nat.le_trans hs.le hx

def RVarI (H : Heap) (n : Nat) (w : Nat) (v y : V) (l : List Bool) (most : Nat) (m : Nat) (fr : Fr) (H' : Heap) : Prop :=
  ∃ v' i, m = (groups n).length - i ∧ i ≤ (groups n).length ∧ fr = ⟨[(0, .ptr (some (w, 0))), (5, y), (6, .int .i64 (i : Nat))], []⟩ ∧
    RW H' w v' (l ++ bytesBits ((groups n).take i)) most ∧ Bytes H' y (groups n) ∧ Same (wf w v) H H' ∧ (∀ b, sb v' b → sb v b ∨ H.next ≤ b) ∧ (∀ b, sb y b → ¬ sb v' b ∧ H.next ≤ b)

theorem rwVar_ct {P : Prog} (hp : HasRefBits P) {H : Heap} {w : Nat} {v : V} {l : List Bool} {most n : Nat} (h : RW H w v l most) (hn : n < 18446744073709551616) {Q : Out → Heap → Prop}
    (hQ : ∀ v' H', RW H' w v' (wVar l most n).2 most → Same (wf w v) H H' → (∀ b, sb v' b → sb v b ∨ H.next ≤ b) → Q (.ret (.int .i64 (wVar l most n).1)) H') :
    Call P 19 [.ptr (some (w, 0)), .int .u64 n] H Q := by
  have := h.room; have := h.max; have hlt := h.lt
  have hG := groups_le hn
  refine call_of hp.h_burinref1_Writer_Var rfl ?_
  simp -implicitDefEqProofs -dsimp (disch := omega) only [go_sem, Nat.reduceEqDiff, ↓reduceIte, Nat.reduceAdd, Nat.reduceMul, Nat.reduceSub, Nat.reduceLT, Nat.reduceLeDiff, Int.reduceLT, Int.reduceLE, Int.reduceEq, Int.reduceNeg, Int.reduceAdd, Int.reduceMul, Int.reduceSub, Int.reduceToNat, reduceCtorEq, ]
  refine groups_ct hp hn (fun y H1 hb1 hs1 hf1 => ?_)
  have hw1 := h.same hs1 (fun _ _ h => h)
  have hy : ∀ b, sb y b → ¬ sb v b := fun b hb hv => by have := h.list.lt hv; have := hf1 b hb; omega
  have hs1' : Same (wf w v) H H1 := hs1.mono fun b _ hb => hb.elim
  obtain ⟨x, c, e', rfl⟩ := h.list.arr.shape
  obtain ⟨x1, c1, e1, rfl⟩ := hb1.arr.shape
  simp -implicitDefEqProofs -dsimp (disch := omega) only [go_sem, Nat.reduceEqDiff, ↓reduceIte, Nat.reduceAdd, Nat.reduceMul, Nat.reduceSub, Nat.reduceLT, Nat.reduceLeDiff, Int.reduceLT, Int.reduceLE, Int.reduceEq, Int.reduceNeg, Int.reduceAdd, Int.reduceMul, Int.reduceSub, Int.reduceToNat, reduceCtorEq, rd_s hw1.cell, w64]
  refine lif_dec (fun h2 => ?_) (fun h2 => ?_)
  · have e : wVar l most n = (13, l) := by rw [wVar, if_pos (by omega)]
    simp -implicitDefEqProofs -dsimp (disch := omega) only [go_sem, Nat.reduceEqDiff, ↓reduceIte, Nat.reduceAdd, Nat.reduceMul, Nat.reduceSub, Nat.reduceLT, Nat.reduceLeDiff, Int.reduceLT, Int.reduceLE, Int.reduceEq, Int.reduceNeg, Int.reduceAdd, Int.reduceMul, Int.reduceSub, Int.reduceToNat, reduceCtorEq, ]
    simp only [e] at hQ
    exact hQ _ H1 hw1 hs1' (fun b hb => Or.inl hb)
  · have e : wVar l most n = (0, l ++ bytesBits (groups n)) := by rw [wVar, if_neg (by omega)]
    simp only [e] at hQ
    simp -implicitDefEqProofs -dsimp (disch := omega) only [go_sem, Nat.reduceEqDiff, ↓reduceIte, Nat.reduceAdd, Nat.reduceMul, Nat.reduceSub, Nat.reduceLT, Nat.reduceLeDiff, Int.reduceLT, Int.reduceLE, Int.reduceEq, Int.reduceNeg, Int.reduceAdd, Int.reduceMul, Int.reduceSub, Int.reduceToNat, reduceCtorEq, ]
    refine loop_inv (RVarI H n w _ _ l most) ?_ (groups n).length _ _ ⟨_, 0, by omega, by omega, rfl, by simpa [bytesBits] using hw1, hb1, hs1', fun b hb => Or.inl hb, fun b hb => ⟨hy b hb, hf1 b hb⟩⟩
    rintro m fr H2 ⟨v2, i, hm, hi, rfl, hw2, hb2, hs2, hf2, hy2⟩
    generalize hK : rnd (RVarI H n w _ _ l most) m = K
    simp -implicitDefEqProofs -dsimp (disch := omega) only [go_sem, Nat.reduceEqDiff, ↓reduceIte, Nat.reduceAdd, Nat.reduceMul, Nat.reduceSub, Nat.reduceLT, Nat.reduceLeDiff, Int.reduceLT, Int.reduceLE, Int.reduceEq, Int.reduceNeg, Int.reduceAdd, Int.reduceMul, Int.reduceSub, Int.reduceToNat, reduceCtorEq, burinref1_Writer_Var_l0]
    refine lif_dec (fun h3 => ?_) (fun h3 => ?_)
    · have hil : i < (groups n).length := by omega
      have hgl := groups_lt n _ (List.getElem_mem hil)
      have hbl := bytesBits_length ((groups n).take i)
      simp only [List.length_take] at hbl
      obtain ⟨b0, o0, c0, hv0, hr0⟩ := arr_byte hb2.arr hil
      cases hv0
      simp -implicitDefEqProofs -dsimp (disch := omega) only [go_sem, Nat.reduceEqDiff, ↓reduceIte, Nat.reduceAdd, Nat.reduceMul, Nat.reduceSub, Nat.reduceLT, Nat.reduceLeDiff, Int.reduceLT, Int.reduceLE, Int.reduceEq, Int.reduceNeg, Int.reduceAdd, Int.reduceMul, Int.reduceSub, Int.reduceToNat, reduceCtorEq, w64, wu64, Int.toNat_natCast, Nat.mul_one, hr0]
      have hq : (groups n)[i] / 2 ^ 8 = 0 := Nat.div_eq_of_lt (by simpa using hgl)
      have ep : wPut (l ++ bytesBits ((groups n).take i)) most (groups n)[i] 8 = (0, l ++ bytesBits ((groups n).take (i + 1))) := by
        rw [wPut, if_neg (by omega), if_neg (fun hx => hx.2 hq), if_neg (by simp only [List.length_append]; omega), bytesBits_take hil, List.append_assoc]; rfl
      refine rwPut_ct hp hw2 (by omega) (by omega) (fun v3 H3 hw3 hs3 hf3 => ?_)
      rw [ep] at hw3 ⊢
      simp -implicitDefEqProofs -dsimp (disch := omega) only [go_sem, Nat.reduceEqDiff, ↓reduceIte, Nat.reduceAdd, Nat.reduceMul, Nat.reduceSub, Nat.reduceLT, Nat.reduceLeDiff, Int.reduceLT, Int.reduceLE, Int.reduceEq, Int.reduceNeg, Int.reduceAdd, Int.reduceMul, Int.reduceSub, Int.reduceToNat, reduceCtorEq, w64]
      subst hK
      have hy3 : ∀ b, sb (V.sl (some (b0, o0)) (groups n).length c1 1) b → ¬ sb v3 b := fun b hb hv => by
        rcases hf3 b hv with hx | hx
        · exact (hy2 b hb).1 hx
        · have := hb2.lt hb; omega
      refine rnd_n ((groups n).length - (i + 1)) (by omega) ⟨v3, i + 1, rfl, by omega, rfl, hw3, Own.same hb2 hs3 (fun b hb hx => hx.elim (fun e => by have := (hy2 b hb).2; omega) fun hv => (hy2 b hb).1 hv), hs2.trans hs3 fun b hbl hb => hb.elim Or.inl fun hx => (hf2 b hx).elim Or.inr fun hy => by omega,
        fun b hb => (hf3 b hb).elim (hf2 b) fun hx => Or.inr (Nat.le_trans hs2.le hx), fun b hb => ⟨hy3 b hb, (hy2 b hb).2⟩⟩
    · obtain rfl : i = (groups n).length := by omega
      subst hK
      simp -implicitDefEqProofs -dsimp (disch := omega) only [go_sem, Nat.reduceEqDiff, ↓reduceIte, Nat.reduceAdd, Nat.reduceMul, Nat.reduceSub, Nat.reduceLT, Nat.reduceLeDiff, Int.reduceLT, Int.reduceLE, Int.reduceEq, Int.reduceNeg, Int.reduceAdd, Int.reduceMul, Int.reduceSub, Int.reduceToNat, reduceCtorEq, ]
      rw [List.take_length] at hw2
      exact hQ v2 H2 hw2 hs2 hf2

end Go.Ab
