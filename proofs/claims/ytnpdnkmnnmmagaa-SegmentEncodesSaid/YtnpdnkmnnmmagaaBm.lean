/- A number in groups is read: what the package's Var comes to. Conditions: none. -/
import Derived.Test.YtnpdnkmnnmmagaaBl
set_option linter.all false
namespace Go.Ab

theorem fin_r1 {P : Prog} {res : List ARes} {Q : Out → Heap → Prop} {tm : List (Nat × V)} {g : Nat} {l : List V} {H : Heap} (hr : recOf P g = none) (hg : ndOf P g = true)
    (h : Call P g l H (fun out H' => match out with | .ret _ => told ⟨tm, [(g, l)]⟩ res Q H' | .pan _ => False)) : fin P false res Q .ret ⟨tm, [(g, l)]⟩ H := by
  refine ⟨(fun e => by cases e), ?_⟩
  simp only [evDs, hr]
  refine ⟨hg, Call_mono h fun o H' ho => ?_⟩
  cases o with
  | pan v => exact ho
  | ret v =>
    simp only [told, bindL] at ho
    simp only [resK]
    revert ho
    cases resOf ⟨tm, [(g, l)]⟩ H' res with
    | none => exact id
    | some vs => exact id

/-- The deferred function: an error leaves nothing read. -/
theorem var1_ct {P : Prog} (hp : HasBits P) {H : Heap} {r c1 c2 c3 c4 : Nat} {v : V} {bs : List Nat} {a a0 n : Nat} {e : Int} (h : Rd H r v bs a) (h1 : H.get c1 = .cells [.ptr (some (r, 0))] true) (h2 : H.get c2 = .cells [.int .u64 n] true)
    (h3 : H.get c3 = .cells [.int .i64 e] true) (h4 : H.get c4 = .cells [.int .i64 a0] true) (ha : a0 ≤ 8 * bs.length) (n2 : c2 ≠ r) (n3 : c3 ≠ r) (n23 : c3 ≠ c2) (n12 : c1 ≠ c2) (n42 : c4 ≠ c2) (nv : ¬ sb v c2) (hc2 : c2 < H.next) {Q : Out → Heap → Prop}
    (hQ : ∀ H', Rd H' r v bs (if e = 0 then a else a0) → H'.get c2 = .cells [.int .u64 (if e = 0 then n else 0 : Nat)] true → H'.get c3 = .cells [.int .i64 e] true → Same (fun b => b = r ∨ b = c2) H H' → Q (.ret (.tup [])) H') :
    Call P 14 [.ptr (some (c3, 0)), .ptr (some (c4, 0)), .ptr (some (c2, 0)), .ptr (some (c1, 0))] H Q := by
  refine call_of hp.h_bits_Reader_Var_1 rfl ?_
  simp -implicitDefEqProofs -dsimp (disch := omega) only [go_sem, Nat.reduceEqDiff, ↓reduceIte, Nat.reduceAdd, Nat.reduceMul, Nat.reduceSub, Nat.reduceLT, Nat.reduceLeDiff, Int.reduceLT, Int.reduceLE, Int.reduceEq, Int.reduceNeg, Int.reduceAdd, Int.reduceMul, Int.reduceSub, Int.reduceToNat, reduceCtorEq, rd_s h3]
  refine lif_dec (fun h5 => ?_) (fun h5 => ?_)
  · have hs1 : Same (fun b => b = c2) H (H.put c2 (.cells [.int .u64 0] true)) := Same.put rfl
    have hr1 : Rd (H.put c2 (.cells [.int .u64 0] true)) r v bs a := h.same hs1 (fun b hb e => hb.elim (fun hx => n2 (e.symm.trans hx)) fun hx => nv (e ▸ hx))
    obtain ⟨hr2, hs2⟩ := hr1.pass (c := a0) ha
    obtain ⟨x, c, e', hv⟩ := h.bytes.arr.shape
    subst hv
    simp -implicitDefEqProofs -dsimp (disch := omega) only [go_sem, Nat.reduceEqDiff, ↓reduceIte, Nat.reduceAdd, Nat.reduceMul, Nat.reduceSub, Nat.reduceLT, Nat.reduceLeDiff, Int.reduceLT, Int.reduceLE, Int.reduceEq, Int.reduceNeg, Int.reduceAdd, Int.reduceMul, Int.reduceSub, Int.reduceToNat, reduceCtorEq, rd_s h1, rd_s h4, wr_s h2, wr_s hr1.cell, n12, n42]
    rw [if_neg h5, if_neg h5] at hQ
    refine hQ _ hr2 ?_ ?_ ((hs1.mono fun b _ hb => Or.inr hb).trans hs2 fun b _ hb => Or.inl hb)
    · simp [get_put, n2]
    · simp [get_put, n3, n23, h3]
  · have h5' : e = 0 := by omega
    rw [if_pos h5', if_pos h5'] at hQ
    simp -implicitDefEqProofs -dsimp (disch := omega) only [go_sem, Nat.reduceEqDiff, ↓reduceIte, Nat.reduceAdd, Nat.reduceMul, Nat.reduceSub, Nat.reduceLT, Nat.reduceLeDiff, Int.reduceLT, Int.reduceLE, Int.reduceEq, Int.reduceNeg, Int.reduceAdd, Int.reduceMul, Int.reduceSub, Int.reduceToNat, reduceCtorEq, ]
    exact hQ H h h2 h3 (Same.refl _ _)

theorem or_sum {n c k : Nat} (h : n < 2 ^ k) : n ||| (c * 2 ^ k) = n + c * 2 ^ k := by
  rw [Nat.or_comm, Nat.mul_comm, ← Nat.two_pow_add_eq_or_of_lt h, Nat.add_comm]
theorem cadd7 (i : Nat) : ((7 * i : Nat) : Int) + 7 = ((7 * (i + 1) : Nat) : Int) := by omega
/-- The boxes of Var: the reader, n, err, from. -/
structure VB (H0 H : Heap) (r : Nat) (v : V) (bs : List Nat) (a a0 n : Nat) (e : Int) : Prop where
  rd : Rd H r v bs a
  b1 : H.get H0.next = .cells [.ptr (some (r, 0))] true
  b2 : H.get (H0.next + 1) = .cells [.int .u64 n] true
  b3 : H.get (H0.next + 2) = .cells [.int .i64 e] true
  b4 : H.get (H0.next + 3) = .cells [.int .i64 a0] true
  nx : H0.next + 4 ≤ H.next
  same : Same (fun b => b = r) H0 H
def vds (H0 : Heap) : List (Nat × List V) := [(14, [.ptr (some (H0.next + 2, 0)), .ptr (some (H0.next + 3, 0)), .ptr (some (H0.next + 1, 0)), .ptr (some (H0.next, 0))])]

theorem VB.put2 {H0 H : Heap} {r : Nat} {v : V} {bs : List Nat} {a a0 n : Nat} {e : Int} (h : VB H0 H r v bs a a0 n e) (hr : r < H0.next) (hv : ∀ b, sb v b → b < H0.next) (n' : Nat) :
    VB H0 (H.put (H0.next + 1) (.cells [.int .u64 n'] true)) r v bs a a0 n' e := by
  have hs : Same (fun b => b = H0.next + 1) H (H.put (H0.next + 1) (.cells [.int .u64 n'] true)) := Same.put rfl
  refine ⟨h.rd.same hs (fun b hb e => hb.elim (fun hx => by omega) fun hx => by have := hv b hx; omega), ?_, by simp [get_put], ?_, ?_, h.nx, h.same.trans hs fun b hb e => by omega⟩
  · simp only [get_put]; rw [if_neg (by omega)]; exact h.b1
  · simp only [get_put]; rw [if_neg (by omega)]; exact h.b3
  · simp only [get_put]; rw [if_neg (by omega)]; exact h.b4
theorem VB.put3 {H0 H : Heap} {r : Nat} {v : V} {bs : List Nat} {a a0 n : Nat} {e : Int} (h : VB H0 H r v bs a a0 n e) (hr : r < H0.next) (hv : ∀ b, sb v b → b < H0.next) (e' : Int) :
    VB H0 (H.put (H0.next + 2) (.cells [.int .i64 e'] true)) r v bs a a0 n e' := by
  have hs : Same (fun b => b = H0.next + 2) H (H.put (H0.next + 2) (.cells [.int .i64 e'] true)) := Same.put rfl
  refine ⟨h.rd.same hs (fun b hb e => hb.elim (fun hx => by omega) fun hx => by have := hv b hx; omega), ?_, ?_, by simp [get_put], ?_, h.nx, h.same.trans hs fun b hb e => by omega⟩
  · simp only [get_put]; rw [if_neg (by omega)]; exact h.b1
  · simp only [get_put]; rw [if_neg (by omega)]; exact h.b2
  · simp only [get_put]; rw [if_neg (by omega)]; exact h.b4
theorem VB.step {H0 H H' : Heap} {r : Nat} {v : V} {bs : List Nat} {a a' a0 n : Nat} {e : Int} (h : VB H0 H r v bs a a0 n e) (hr : r < H0.next) (hrd : Rd H' r v bs a') (hs : Same (fun b => b = r) H H') : VB H0 H' r v bs a' a0 n e := by
  have := h.nx; have := hs.le
  exact ⟨hrd, (hs.eq _ (by omega) (by omega)).trans h.b1, (hs.eq _ (by omega) (by omega)).trans h.b2, (hs.eq _ (by omega) (by omega)).trans h.b3, (hs.eq _ (by omega) (by omega)).trans h.b4, by omega, h.same.trans hs fun _ _ h => h⟩

theorem var_fin {P : Prog} (hp : HasBits P) {H0 H : Heap} {r : Nat} {v : V} {bs : List Nat} {a a0 n : Nat} {e : Int} (h0 : Rd H0 r v bs a0) (h : VB H0 H r v bs a a0 n e) {ex : List (Nat × V)} {Q : Out → Heap → Prop}
    (hQ : ∀ H', Rd H' r v bs (if e = 0 then a else a0) → Same (fun b => b = r) H0 H' → Q (.ret (.tup [.int .u64 ((if e = 0 then n else 0 : Nat) : Int), .int .i64 e])) H') :
    fin P false [.cell 2 none, .cell 3 none] Q .ret ⟨(2, .ptr (some (H0.next + 1, 0))) :: (3, .ptr (some (H0.next + 2, 0))) :: ex, vds H0⟩ H := by
  have hr0 := h0.lt
  have hsv : ∀ b, sb v b → b < H0.next := fun b hb => h0.bytes.lt hb
  refine fin_r1 (by simp [recOf, hp.h_bits_Reader_Var_1, bits_Reader_Var_1]) (by simp [ndOf, hp.h_bits_Reader_Var_1, bits_Reader_Var_1]) ?_
  refine var1_ct hp h.rd h.b1 h.b2 h.b3 h.b4 h0.room (by omega) (by omega) (by omega) (by omega) (by omega) (fun hx => by have := hsv _ hx; omega) (by have := h.nx; omega) (fun H' hr h2 h3 hs => ?_)
  simp -implicitDefEqProofs -dsimp (disch := omega) only [go_sem, Nat.reduceEqDiff, ↓reduceIte, Nat.reduceAdd, Nat.reduceMul, Nat.reduceSub, Nat.reduceLT, Nat.reduceLeDiff, Int.reduceLT, Int.reduceLE, Int.reduceEq, Int.reduceNeg, Int.reduceAdd, Int.reduceMul, Int.reduceSub, Int.reduceToNat, reduceCtorEq, rd_s h2, rd_s h3]
  exact hQ H' hr (h.same.trans hs fun b hb hx => hx.elim id fun hy => by omega)

def VI (H0 : Heap) (r : Nat) (v : V) (bs : List Nat) (a0 : Nat) (m : Nat) (fr : Fr) (H : Heap) : Prop :=
  ∃ i n a ex, m = 10 - i ∧ i ≤ 9 ∧ n < 2 ^ (7 * i) ∧ fr = ⟨(1, .ptr (some (H0.next, 0))) :: (2, .ptr (some (H0.next + 1, 0))) :: (3, .ptr (some (H0.next + 2, 0))) :: (5, .int .i64 ((7 * i : Nat) : Int)) :: ex, vds H0⟩ ∧ VB H0 H r v bs a a0 n 0 ∧ rVar bs a0 = rVarF bs a0 (10 - i) i n a

set_option maxRecDepth 4096 in
theorem rVar_ct {P : Prog} (hp : HasBits P) {H : Heap} {r : Nat} {v : V} {bs : List Nat} {a0 : Nat} (h : Rd H r v bs a0) {Q : Out → Heap → Prop}
    (hQ : ∀ H', Rd H' r v bs (rVar bs a0).2.2 → Same (fun b => b = r) H H' → Q (.ret (.tup [.int .u64 ((rVar bs a0).1 : Nat), .int .i64 (rVar bs a0).2.1])) H') : Call P 15 [.ptr (some (r, 0))] H Q := by
  have := h.room; have := h.max; have hlt := h.lt
  have hsv : ∀ b, sb v b → b < H.next := fun b hb => h.bytes.lt hb
  obtain ⟨x, c, e', hv⟩ := h.bytes.arr.shape
  subst hv
  have n1 : ¬ r = H.next := by omega
  have n2 : ¬ r = H.next + 1 := by omega
  have n3 : ¬ r = H.next + 1 + 1 := by omega
  have n4 : ¬ r = H.next + 1 + 1 + 1 := by omega
  refine call_of hp.h_bits_Reader_Var rfl ?_
  simp -implicitDefEqProofs -dsimp (disch := omega) only [go_sem, Nat.reduceEqDiff, ↓reduceIte, Nat.reduceAdd, Nat.reduceMul, Nat.reduceSub, Nat.reduceLT, Nat.reduceLeDiff, Int.reduceLT, Int.reduceLE, Int.reduceEq, Int.reduceNeg, Int.reduceAdd, Int.reduceMul, Int.reduceSub, Int.reduceToNat, reduceCtorEq, next_new, rd_s h.cell, n1, n2, n3, n4]
  have hvb : ∀ X : Heap, X = (((H.new (.cells [.ptr (some (r, 0))] true)).new (.cells [.int .u64 0] true)).new (.cells [.int .i64 0] true)).new (.cells [.int .i64 a0] true) → VB H X r (.sl x bs.length c e') bs a0 a0 0 0 := by
    rintro _ rfl
    have hs : Same (fun _ => False) H ((((H.new (.cells [.ptr (some (r, 0))] true)).new (.cells [.int .u64 0] true)).new (.cells [.int .i64 0] true)).new (.cells [.int .i64 a0] true)) :=
      (((Same.new _ _ _).trans (Same.new _ _ _) fun _ _ h => h).trans (Same.new _ _ _) fun _ _ h => h).trans (Same.new _ _ _) fun _ _ h => h
    refine ⟨h.same hs fun _ _ h => h, ?_, ?_, ?_, ?_, by simp [next_new], hs.mono fun _ _ h => h.elim⟩ <;> simp [get_new, next_new, nn1, nn2, nn3]
  refine loop_inv (VI H r (.sl x bs.length c e') bs a0) ?_ 10 _ _ ⟨0, 0, a0, [], rfl, by omega, by simp, rfl, hvb _ rfl, rfl⟩
  rintro m fr H1 ⟨i, n, a, ex, hm, hi, hn, rfl, hb, hv⟩
  generalize hK : rnd (VI H r (.sl x bs.length c e') bs a0) m = K
  simp -implicitDefEqProofs -dsimp (disch := omega) only [go_sem, Nat.reduceEqDiff, ↓reduceIte, Nat.reduceAdd, Nat.reduceMul, Nat.reduceSub, Nat.reduceLT, Nat.reduceLeDiff, Int.reduceLT, Int.reduceLE, Int.reduceEq, Int.reduceNeg, Int.reduceAdd, Int.reduceMul, Int.reduceSub, Int.reduceToNat, reduceCtorEq, vds, rd_s hb.b1, bits_Reader_Var_l0]
  rw [show 10 - i = 9 - i + 1 by omega, rVarF] at hv
  have ne2 : ¬ r = H.next + 1 := by omega
  have ne3 : ¬ r = H.next + 2 := by omega
  refine rGroup_ct hp hb.rd (fun h8 => ?_) (fun h8 H2 hr2 hs2 => ?_)
  · rw [if_pos h8] at hv
    have hb2 : VB H (H1.put (H.next + 1) (.cells [.int .u64 0] true)) r (.sl x bs.length c e') bs a a0 0 0 := hb.put2 hlt hsv 0
    have hb3 := hb2.put3 hlt hsv 14
    simp -implicitDefEqProofs -dsimp (disch := omega) only [go_sem, Nat.reduceEqDiff, ↓reduceIte, Nat.reduceAdd, Nat.reduceMul, Nat.reduceSub, Nat.reduceLT, Nat.reduceLeDiff, Int.reduceLT, Int.reduceLE, Int.reduceEq, Int.reduceNeg, Int.reduceAdd, Int.reduceMul, Int.reduceSub, Int.reduceToNat, reduceCtorEq, wr_s hb.b2, wr_s hb2.b3]
    subst hK
    simp -implicitDefEqProofs -dsimp (disch := omega) only [go_sem, Nat.reduceEqDiff, ↓reduceIte, Nat.reduceAdd, Nat.reduceMul, Nat.reduceSub, Nat.reduceLT, Nat.reduceLeDiff, Int.reduceLT, Int.reduceLE, Int.reduceEq, Int.reduceNeg, Int.reduceAdd, Int.reduceMul, Int.reduceSub, Int.reduceToNat, reduceCtorEq, ]
    refine var_fin hp h hb3 (ex := []) fun H' hr hs => ?_
    simp only [hv] at hQ
    exact hQ H' hr hs
  · rw [if_neg (by omega)] at hv
    have hg := toldN_lt bs a 8
    have hb1 := hb.step hlt hr2 hs2
    generalize toldN bs a 8 = g at *
    have hs7 : ∀ b, sb (V.sl x bs.length c e') b → b < H.next := hsv
    have hgo : Rd H2 r (.sl x bs.length c e') bs (a + 8) := hr2
    by_cases hbad : (i = 9 ∧ 1 < g) ∨ (0 < i ∧ g = 0)
    · rw [if_pos hbad] at hv
      have hb2 : VB H (H2.put (H.next + 1) (.cells [.int .u64 0] true)) r (.sl x bs.length c e') bs (a + 8) a0 0 0 := hb1.put2 hlt hsv 0
      have hb3 := hb2.put3 hlt hsv 16
      simp only [hv] at hQ
      have cs : ((((7 * i : Nat) : Int) = 63) = True ∧ ((1 < ((g : Nat) : Int)) = True)) ∨ ((((7 * i : Nat) : Int) = 63) = True ∧ ((1 < ((g : Nat) : Int)) = False) ∧ ((0 < ((7 * i : Nat) : Int)) = True) ∧ ((((g : Nat) : Int) = 0) = True)) ∨ ((((7 * i : Nat) : Int) = 63) = False ∧ ((0 < ((7 * i : Nat) : Int)) = True) ∧ ((((g : Nat) : Int) = 0) = True)) := by
        simp only [eq_iff_iff, iff_true, iff_false]; omega
      rcases cs with ⟨f1, f2⟩ | ⟨f1, f2, f3, f4⟩ | ⟨f1, f2, f3⟩
      · simp -implicitDefEqProofs -dsimp (disch := omega) only [go_sem, Nat.reduceEqDiff, ↓reduceIte, Nat.reduceAdd, Nat.reduceMul, Nat.reduceSub, Nat.reduceLT, Nat.reduceLeDiff, Int.reduceLT, Int.reduceLE, Int.reduceEq, Int.reduceNeg, Int.reduceAdd, Int.reduceMul, Int.reduceSub, Int.reduceToNat, reduceCtorEq, f1, f2, wr_s hb1.b2, wr_s hb2.b3]
        subst hK
        simp -implicitDefEqProofs -dsimp (disch := omega) only [go_sem, Nat.reduceEqDiff, ↓reduceIte, Nat.reduceAdd, Nat.reduceMul, Nat.reduceSub, Nat.reduceLT, Nat.reduceLeDiff, Int.reduceLT, Int.reduceLE, Int.reduceEq, Int.reduceNeg, Int.reduceAdd, Int.reduceMul, Int.reduceSub, Int.reduceToNat, reduceCtorEq, ]
        exact var_fin hp h hb3 (ex := []) fun H' hr hs => hQ H' hr hs
      · simp -implicitDefEqProofs -dsimp (disch := omega) only [go_sem, Nat.reduceEqDiff, ↓reduceIte, Nat.reduceAdd, Nat.reduceMul, Nat.reduceSub, Nat.reduceLT, Nat.reduceLeDiff, Int.reduceLT, Int.reduceLE, Int.reduceEq, Int.reduceNeg, Int.reduceAdd, Int.reduceMul, Int.reduceSub, Int.reduceToNat, reduceCtorEq, f1, f2, f3, f4, wr_s hb1.b2, wr_s hb2.b3]
        subst hK
        simp -implicitDefEqProofs -dsimp (disch := omega) only [go_sem, Nat.reduceEqDiff, ↓reduceIte, Nat.reduceAdd, Nat.reduceMul, Nat.reduceSub, Nat.reduceLT, Nat.reduceLeDiff, Int.reduceLT, Int.reduceLE, Int.reduceEq, Int.reduceNeg, Int.reduceAdd, Int.reduceMul, Int.reduceSub, Int.reduceToNat, reduceCtorEq, ]
        exact var_fin hp h hb3 (ex := []) fun H' hr hs => hQ H' hr hs
      · simp -implicitDefEqProofs -dsimp (disch := omega) only [go_sem, Nat.reduceEqDiff, ↓reduceIte, Nat.reduceAdd, Nat.reduceMul, Nat.reduceSub, Nat.reduceLT, Nat.reduceLeDiff, Int.reduceLT, Int.reduceLE, Int.reduceEq, Int.reduceNeg, Int.reduceAdd, Int.reduceMul, Int.reduceSub, Int.reduceToNat, reduceCtorEq, f1, f2, f3, wr_s hb1.b2, wr_s hb2.b3]
        subst hK
        simp -implicitDefEqProofs -dsimp (disch := omega) only [go_sem, Nat.reduceEqDiff, ↓reduceIte, Nat.reduceAdd, Nat.reduceMul, Nat.reduceSub, Nat.reduceLT, Nat.reduceLeDiff, Int.reduceLT, Int.reduceLE, Int.reduceEq, Int.reduceNeg, Int.reduceAdd, Int.reduceMul, Int.reduceSub, Int.reduceToNat, reduceCtorEq, ]
        exact var_fin hp h hb3 (ex := []) fun H' hr hs => hQ H' hr hs
    · rw [if_neg hbad] at hv
      have cs : ((((7 * i : Nat) : Int) = 63) = True ∧ ((1 < ((g : Nat) : Int)) = False) ∧ ((0 < ((7 * i : Nat) : Int)) = True) ∧ ((((g : Nat) : Int) = 0) = False)) ∨ ((((7 * i : Nat) : Int) = 63) = False ∧ ((0 < ((7 * i : Nat) : Int)) = True) ∧ ((((g : Nat) : Int) = 0) = False)) ∨ ((((7 * i : Nat) : Int) = 63) = False ∧ ((0 < ((7 * i : Nat) : Int)) = False)) := by
        simp only [eq_iff_iff, iff_true, iff_false]; omega
      have hvs := var_sum (g := g) hi hn (by omega)
      have v1 := hvs.1
      have v2 := hvs.2.1
      have v5 : n < 18446744073709551616 := by omega
      have v4 : g % 128 * 2 ^ (7 * i) ≤ 18446744073709551615 := by omega
      clear hvs
      have hb2 := hb1.put2 hlt hsv (n + g % 128 * 2 ^ (7 * i))
      have hb3 := hb2.put3 hlt hsv 0
      rcases cs with ⟨f1, f2, f3, f4⟩ | ⟨f1, f2, f3⟩ | ⟨f1, f2⟩
      · simp -implicitDefEqProofs -dsimp (disch := omega) only [go_sem, Nat.reduceEqDiff, ↓reduceIte, Nat.reduceAdd, Nat.reduceMul, Nat.reduceSub, Nat.reduceLT, Nat.reduceLeDiff, Int.reduceLT, Int.reduceLE, Int.reduceEq, Int.reduceNeg, Int.reduceAdd, Int.reduceMul, Int.reduceSub, Int.reduceToNat, reduceCtorEq, f1, f2, f3, f4, rd_s hb1.b2, wr_s hb1.b2, and127, wu64, shl64, or64, or_sum hn]
        refine lif_dec (fun h5 => ?_) (fun h5 => ?_)
        · rw [if_pos (by omega)] at hv
          simp only [hv] at hQ
          simp -implicitDefEqProofs -dsimp (disch := omega) only [go_sem, Nat.reduceEqDiff, ↓reduceIte, Nat.reduceAdd, Nat.reduceMul, Nat.reduceSub, Nat.reduceLT, Nat.reduceLeDiff, Int.reduceLT, Int.reduceLE, Int.reduceEq, Int.reduceNeg, Int.reduceAdd, Int.reduceMul, Int.reduceSub, Int.reduceToNat, reduceCtorEq, rd_s hb2.b2, wr_s hb2.b2, put_put, wr_s hb2.b3]
          subst hK
          simp -implicitDefEqProofs -dsimp (disch := omega) only [go_sem, Nat.reduceEqDiff, ↓reduceIte, Nat.reduceAdd, Nat.reduceMul, Nat.reduceSub, Nat.reduceLT, Nat.reduceLeDiff, Int.reduceLT, Int.reduceLE, Int.reduceEq, Int.reduceNeg, Int.reduceAdd, Int.reduceMul, Int.reduceSub, Int.reduceToNat, reduceCtorEq, ]
          exact var_fin hp h hb3 (ex := []) fun H' hr hs => hQ H' hr hs
        · rw [if_neg (by omega)] at hv
          simp -implicitDefEqProofs -dsimp (disch := omega) only [go_sem, Nat.reduceEqDiff, ↓reduceIte, Nat.reduceAdd, Nat.reduceMul, Nat.reduceSub, Nat.reduceLT, Nat.reduceLeDiff, Int.reduceLT, Int.reduceLE, Int.reduceEq, Int.reduceNeg, Int.reduceAdd, Int.reduceMul, Int.reduceSub, Int.reduceToNat, reduceCtorEq, w64, cadd7]
          subst hK
          refine rnd_n (10 - (i + 1)) (by omega) ⟨i + 1, n + g % 128 * 2 ^ (7 * i), a + 8, _, rfl, by omega, (var_sum (g := g) hi hn (by omega)).2.2 (by omega), rfl, hb2, ?_⟩
          rw [hv, show 10 - (i + 1) = 9 - i by omega]
      · simp -implicitDefEqProofs -dsimp (disch := omega) only [go_sem, Nat.reduceEqDiff, ↓reduceIte, Nat.reduceAdd, Nat.reduceMul, Nat.reduceSub, Nat.reduceLT, Nat.reduceLeDiff, Int.reduceLT, Int.reduceLE, Int.reduceEq, Int.reduceNeg, Int.reduceAdd, Int.reduceMul, Int.reduceSub, Int.reduceToNat, reduceCtorEq, f1, f2, f3, rd_s hb1.b2, wr_s hb1.b2, and127, wu64, shl64, or64, or_sum hn]
        refine lif_dec (fun h5 => ?_) (fun h5 => ?_)
        · rw [if_pos (by omega)] at hv
          simp only [hv] at hQ
          simp -implicitDefEqProofs -dsimp (disch := omega) only [go_sem, Nat.reduceEqDiff, ↓reduceIte, Nat.reduceAdd, Nat.reduceMul, Nat.reduceSub, Nat.reduceLT, Nat.reduceLeDiff, Int.reduceLT, Int.reduceLE, Int.reduceEq, Int.reduceNeg, Int.reduceAdd, Int.reduceMul, Int.reduceSub, Int.reduceToNat, reduceCtorEq, rd_s hb2.b2, wr_s hb2.b2, put_put, wr_s hb2.b3]
          subst hK
          simp -implicitDefEqProofs -dsimp (disch := omega) only [go_sem, Nat.reduceEqDiff, ↓reduceIte, Nat.reduceAdd, Nat.reduceMul, Nat.reduceSub, Nat.reduceLT, Nat.reduceLeDiff, Int.reduceLT, Int.reduceLE, Int.reduceEq, Int.reduceNeg, Int.reduceAdd, Int.reduceMul, Int.reduceSub, Int.reduceToNat, reduceCtorEq, ]
          exact var_fin hp h hb3 (ex := []) fun H' hr hs => hQ H' hr hs
        · rw [if_neg (by omega)] at hv
          simp -implicitDefEqProofs -dsimp (disch := omega) only [go_sem, Nat.reduceEqDiff, ↓reduceIte, Nat.reduceAdd, Nat.reduceMul, Nat.reduceSub, Nat.reduceLT, Nat.reduceLeDiff, Int.reduceLT, Int.reduceLE, Int.reduceEq, Int.reduceNeg, Int.reduceAdd, Int.reduceMul, Int.reduceSub, Int.reduceToNat, reduceCtorEq, w64, cadd7]
          subst hK
          refine rnd_n (10 - (i + 1)) (by omega) ⟨i + 1, n + g % 128 * 2 ^ (7 * i), a + 8, _, rfl, by omega, (var_sum (g := g) hi hn (by omega)).2.2 (by omega), rfl, hb2, ?_⟩
          rw [hv, show 10 - (i + 1) = 9 - i by omega]
      · simp -implicitDefEqProofs -dsimp (disch := omega) only [go_sem, Nat.reduceEqDiff, ↓reduceIte, Nat.reduceAdd, Nat.reduceMul, Nat.reduceSub, Nat.reduceLT, Nat.reduceLeDiff, Int.reduceLT, Int.reduceLE, Int.reduceEq, Int.reduceNeg, Int.reduceAdd, Int.reduceMul, Int.reduceSub, Int.reduceToNat, reduceCtorEq, f1, f2, rd_s hb1.b2, wr_s hb1.b2, and127, wu64, shl64, or64, or_sum hn]
        refine lif_dec (fun h5 => ?_) (fun h5 => ?_)
        · rw [if_pos (by omega)] at hv
          simp only [hv] at hQ
          simp -implicitDefEqProofs -dsimp (disch := omega) only [go_sem, Nat.reduceEqDiff, ↓reduceIte, Nat.reduceAdd, Nat.reduceMul, Nat.reduceSub, Nat.reduceLT, Nat.reduceLeDiff, Int.reduceLT, Int.reduceLE, Int.reduceEq, Int.reduceNeg, Int.reduceAdd, Int.reduceMul, Int.reduceSub, Int.reduceToNat, reduceCtorEq, rd_s hb2.b2, wr_s hb2.b2, put_put, wr_s hb2.b3]
          subst hK
          simp -implicitDefEqProofs -dsimp (disch := omega) only [go_sem, Nat.reduceEqDiff, ↓reduceIte, Nat.reduceAdd, Nat.reduceMul, Nat.reduceSub, Nat.reduceLT, Nat.reduceLeDiff, Int.reduceLT, Int.reduceLE, Int.reduceEq, Int.reduceNeg, Int.reduceAdd, Int.reduceMul, Int.reduceSub, Int.reduceToNat, reduceCtorEq, ]
          exact var_fin hp h hb3 (ex := []) fun H' hr hs => hQ H' hr hs
        · rw [if_neg (by omega)] at hv
          simp -implicitDefEqProofs -dsimp (disch := omega) only [go_sem, Nat.reduceEqDiff, ↓reduceIte, Nat.reduceAdd, Nat.reduceMul, Nat.reduceSub, Nat.reduceLT, Nat.reduceLeDiff, Int.reduceLT, Int.reduceLE, Int.reduceEq, Int.reduceNeg, Int.reduceAdd, Int.reduceMul, Int.reduceSub, Int.reduceToNat, reduceCtorEq, w64, cadd7]
          subst hK
          refine rnd_n (10 - (i + 1)) (by omega) ⟨i + 1, n + g % 128 * 2 ^ (7 * i), a + 8, _, rfl, by omega, (var_sum (g := g) hi hn (by omega)).2.2 (by omega), rfl, hb2, ?_⟩
          rw [hv, show 10 - (i + 1) = 9 - i by omega]
end Go.Ab
