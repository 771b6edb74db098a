/- Invert: a map's words, opened and closed again. Conditions: none. -/
import Derived.Test.YtdkgdneiilnppaaCl
set_option linter.all false
namespace Go.Ab

theorem Hs.cut {H : Heap} {A B C : As} {R : List As} (h : Hs H (A :: R)) (k : ∀ F, A.ok F H → ∃ F1 F2, B.ok F1 H ∧ C.ok F2 H ∧ (∀ b, F1 b → ¬ F2 b) ∧ ∀ b, F1 b ∨ F2 b ↔ F b) : Hs H (B :: C :: R) := by
  obtain ⟨F, h1, h2, h3⟩ := h
  obtain ⟨F1, F2, k1, k2, k3, k4⟩ := k F h1
  exact ⟨F1, k1, fun _ _ h => h, F2, k2, fun b hb hg => hg.elim id fun h => k3 b h hb, h3.mono fun b hb => by
    rcases hb with (h | h) | h
    · exact Or.inl h
    · exact Or.inr ((k4 b).1 (Or.inl h))
    · exact Or.inr ((k4 b).1 (Or.inr h))⟩

def mapC (w h b : Nat) : List V := [.int .i64 w, .int .i64 h, .int .i64 (wds w), .sl (some (b, 0)) (h * wds w) (h * wds w) 1]
section
variable {P : Prog} {H : Heap} {R : List As} {Q : Out → Heap → Prop} {m w h : Nat} {p : Nat → Nat → Bool}

theorem map_open (hs : Hs H (MapA m w h p :: R)) : ∃ b, b ≠ m ∧ Hs H (Cel m (mapC w h b) :: Cel b (u64s (Wds w h p)) :: R) := by
  obtain ⟨F, v, hF, k⟩ := hs.head
  obtain ⟨b, hv, hne, hg, hlt⟩ := k.row
  refine ⟨b, hne, hs.cut fun F' ⟨v', k1, k2⟩ => ?_⟩
  have ev : v' = v := by have := k2.cell; rw [k.cell] at this; cases this; rfl
  subst ev
  refine ⟨fun x => x = m, fun x => x = b, ⟨fun _ => Iff.rfl, by rw [k.cell, hv]; rfl, k.lt⟩, ⟨fun _ => Iff.rfl, hg, hlt⟩, fun x e1 e2 => hne (e2.symm.trans e1), fun x => ?_⟩
  rw [k1 x, hv]; exact Iff.rfl
theorem map_close {b : Nat} (hs : Hs H (Cel m (mapC w h b) :: Cel b (u64s (Wds w h p)) :: R)) (h1 : 1 ≤ w ∧ 1 ≤ h ∧ w * h ≤ 1048576) : Hs H (MapA m w h p :: R) :=
  hs.merge fun F G ⟨f1, f2, f3⟩ ⟨g1, g2, g3⟩ hd => ⟨.sl (some (b, 0)) (h * wds w) (h * wds w) 1, fun x => ⟨fun e => e.imp (f1 x).1 (g1 x).1, fun e => e.imp (f1 x).2 (g1 x).2⟩, ⟨f2, by
    rw [Wds_length]; exact Or.inr ⟨b, rfl, g2, by simp [u64s, Wds_length], g3⟩, f3, fun e => hd m ((g1 m).2 e) ((f1 m).2 rfl), h1.1, h1.2.1, h1.2.2⟩⟩
theorem cel_wr {b n i : Nat} {L : List Nat} (hs : Hs H (Cel b (u64s L) :: R)) (hi : i < L.length) : ∃ H', wr H b i [.int .u64 n] = some H' ∧ Hs H' (Cel b (u64s (L.set i n)) :: R) := by
  refine ⟨H.put b (.cells (u64s (L.set i n)) true), ?_, hs.put⟩
  rw [wr_s hs.cel]
  have e : over (u64s L) i [.int .u64 (n : Nat)] = u64s (L.set i n) := by
    rw [over_one (by simp [u64s]; omega)]; simp [u64s, List.map_set]
  rw [e, if_pos (by simp [u64s]; omega)]; rfl

/-- The words up to n are inverted. -/
def invP (p : Nat → Nat → Bool) (wd n : Nat) : Nat → Nat → Bool := fun i j => if j * wd + i / 64 < n then !p i j else p i j
def InvI (m w h : Nat) (p : Nat → Nat → Bool) (R : List As) (k : Nat) (fr : Fr) (H : Heap) : Prop :=
  ∃ n : Nat, k = h * wds w - n ∧ n ≤ h * wds w ∧ fr = ⟨[(0, .ptr (some (m, 0))), (7, .int .i64 (h * wds w : Nat)), (8, .int .i64 n)], []⟩ ∧ Hs H (MapA m w h (invP p (wds w) n) :: R)

theorem inv_ct (hp : HasBm P) (hs : Hs H (MapA m w h p :: R)) (hQ : ∀ H', Hs H' (MapA m w h (fun i j => !p i j) :: R) → Q (.ret (.tup [])) H') : Call P 66 [.ptr (some (m, 0))] H Q := by
  obtain ⟨b0, k0⟩ := mapV hs
  obtain ⟨z1, z2, z3, z4, z5⟩ := mapSz hs
  have hww := k0.words
  have hwd : 0 < wds w := by unfold wds; omega
  refine call_of hp.h_bitmap_Map_Invert rfl ?_
  simp -implicitDefEqProofs -dsimp (disch := omega) only [go_sem, Nat.reduceEqDiff, ↓reduceIte, Nat.reduceAdd, Nat.reduceMul, Nat.reduceSub, Nat.reduceLT, Nat.reduceLeDiff, Int.reduceLT, Int.reduceLE, Int.reduceEq, Int.reduceNeg, Int.reduceAdd, Int.reduceMul, Int.reduceSub, Int.reduceToNat, reduceCtorEq, dec_t, dec_f, rd_s k0.cell]
  have hst : invP p (wds w) 0 = p := by funext i j; unfold invP; rw [if_neg (by omega)]
  refine loop_inv (InvI m w h p R) ?_ (h * wds w) _ _ ⟨0, rfl, by omega, rfl, by rw [hst]; exact hs⟩
  rintro k fr H1 ⟨n, hk, hn, rfl, h1⟩
  generalize hK : rnd (InvI m w h p R) k = K
  by_cases hnn : n < h * wds w
  · obtain ⟨b, hne, h2⟩ := map_open h1
    have hy : n / wds w < h := Nat.div_lt_of_lt_mul (by rw [Nat.mul_comm]; exact hnn)
    have hi : n % wds w < wds w := Nat.mod_lt _ hwd
    have hj : n / wds w * wds w + n % wds w = n := by rw [Nat.mul_comm]; exact Nat.div_add_mod n (wds w)
    have hat := Wds_at (p := invP p (wds w) n) hy hi
    rw [hj] at hat
    generalize hy' : n / wds w = y at *
    generalize hi' : n % wds w = i at *
    have hW := word_lt w (invP p (wds w) n) y i
    generalize hWw : word w (invP p (wds w) n) y i = W at *
    have hWb : ∀ k, k < 64 → wb W k = (decide (64 * i + k < w) && p (64 * i + k) y) := fun k hk => by
      rw [← hWw, wb_word hk]; unfold invP
      rw [if_neg (by rw [show (64 * i + k) / 64 = i by omega]; omega)]
    have hc := h2.cel
    have hr : rd H1 none b n = some (.int .u64 (W : Nat)) := by rw [rd_s h2.p1.cel]; simp only [u64s, List.getElem?_map, hat, Option.map_some]
    obtain ⟨H2, hw2, h3⟩ := cel_wr (n := inv W) h2.p1 (i := n) (by rw [Wds_length]; exact hnn)
    have hc3 := h3.p1.cel
    have hlen : n < ((Wds w h (invP p (wds w) n)).set n (inv W)).length := by rw [List.length_set, Wds_length]; exact hnn
    have hr3 : rd H2 none b n = some (.int .u64 (inv W : Nat)) := by rw [rd_s h3.cel]; simp [u64s, Wds_length, hnn]
    unfold mapC at hc hc3
    have e2 : (n : Int) % ((wds w : Nat) : Int) = (i : Int) := by rw [← hi']; rfl
    -- the words as they should be
    have fin : ∀ N : Nat, N < 18446744073709551616 → (∀ k, k < 64 → wb N k = (decide (64 * i + k < w) && !wb W k)) → (Wds w h (invP p (wds w) n)).set n N = Wds w h (invP p (wds w) (n + 1)) := fun N hN hNb => by
      refine (congrArg (fun z => (Wds w h (invP p (wds w) n)).set z N) hj).symm.trans (Wds_set hy hi hN (fun k hk => ?_) fun x' y' hx hy2 hne2 => ?_)
      · rw [hNb k hk, hWb k hk]
        unfold invP
        rw [if_pos (by rw [show (64 * i + k) / 64 = i by omega]; omega)]
        by_cases c : 64 * i + k < w
        · rw [decide_eq_true c]; simp
        · rw [decide_eq_false c]; simp
      · unfold invP
        have hx6 := wds_of hx
        have hdiff : y' * wds w + x' / 64 ≠ n := fun e => by
          have q1 : y' = y := by rw [← hy', ← e, Nat.mul_comm, Nat.mul_add_div hwd, Nat.div_eq_of_lt hx6, Nat.add_zero]
          have q2 : x' / 64 = i := by rw [← hi', ← e, Nat.mul_comm, Nat.mul_add_mod, Nat.mod_eq_of_lt hx6]
          rcases hne2 with h | h; exact h q1; exact h q2
        by_cases c : y' * wds w + x' / 64 < n
        · rw [if_pos c, if_pos (by omega)]
        · rw [if_neg c, if_neg (by omega)]
    have hz : ¬ ((wds w : Nat) : Int) = 0 := by omega
    have hwl : wds w ≤ 1048576 := by unfold wds; omega
    by_cases hl : i = wds w - 1
    · have e3 : ((wds w : Nat) : Int) - 1 = (i : Int) := by omega
      simp -implicitDefEqProofs -dsimp (disch := omega) only [go_sem, Nat.reduceEqDiff, ↓reduceIte, Nat.reduceAdd, Nat.reduceMul, Nat.reduceSub, Nat.reduceLT, Nat.reduceLeDiff, Int.reduceLT, Int.reduceLE, Int.reduceEq, Int.reduceNeg, Int.reduceAdd, Int.reduceMul, Int.reduceSub, Int.reduceToNat, reduceCtorEq, dec_t, dec_f, bitmap_Map_Invert_l0, w64, rd_s hc, Int.toNat_natCast, Nat.mul_one, hr, not64 hW, hw2, rd_s hc3, tmodN, e2, e3, hr3, if_neg hz]
      refine last_ct hp z4 ?_
      have hand := and64 (inv_lt hW) (modw_lt (18446744073709551615 * 2 ^ padS w))
      simp -implicitDefEqProofs -dsimp (disch := omega) only [go_sem, Nat.reduceEqDiff, ↓reduceIte, Nat.reduceAdd, Nat.reduceMul, Nat.reduceSub, Nat.reduceLT, Nat.reduceLeDiff, Int.reduceLT, Int.reduceLE, Int.reduceEq, Int.reduceNeg, Int.reduceAdd, Int.reduceMul, Int.reduceSub, Int.reduceToNat, reduceCtorEq, dec_t, dec_f, ]
      refine aft_intro (by simp [rechecks, recheck, fresh, Fr.get, look, step, opd, rd_s hc3, hr3]) ?_
      obtain ⟨H3, hw3, h4⟩ := cel_wr (n := inv W &&& (18446744073709551615 * 2 ^ padS w % 18446744073709551616)) h3 hlen
      simp -implicitDefEqProofs -dsimp (disch := omega) only [go_sem, Nat.reduceEqDiff, ↓reduceIte, Nat.reduceAdd, Nat.reduceMul, Nat.reduceSub, Nat.reduceLT, Nat.reduceLeDiff, Int.reduceLT, Int.reduceLE, Int.reduceEq, Int.reduceNeg, Int.reduceAdd, Int.reduceMul, Int.reduceSub, Int.reduceToNat, reduceCtorEq, dec_t, dec_f, hand, Int.toNat_natCast, Nat.mul_one, hw3, w64, cadd1]
      subst hK
      refine rnd_n (h * wds w - (n + 1)) (by omega) ⟨n + 1, rfl, by omega, rfl, map_close (b := b) ?_ ⟨z1, z2, z3⟩⟩
      rw [List.set_set, fin _ (and_lt (inv_lt hW)) fun k hk => ?_] at h4
      · exact h4.p1
      · have e : decide (k + padS w < 64) = decide (64 * i + k < w) := decide_eq_decide.2 (by rw [hl]; exact pad_iff z1 hk)
        rw [wb_and, wb_inv hk, wb_last hk, e, Bool.and_comm]
    · have e3 : ¬ ((i : Int) = ((wds w : Nat) : Int) - 1) := by omega
      simp -implicitDefEqProofs -dsimp (disch := omega) only [go_sem, Nat.reduceEqDiff, ↓reduceIte, Nat.reduceAdd, Nat.reduceMul, Nat.reduceSub, Nat.reduceLT, Nat.reduceLeDiff, Int.reduceLT, Int.reduceLE, Int.reduceEq, Int.reduceNeg, Int.reduceAdd, Int.reduceMul, Int.reduceSub, Int.reduceToNat, reduceCtorEq, dec_t, dec_f, bitmap_Map_Invert_l0, w64, rd_s hc, Int.toNat_natCast, Nat.mul_one, hr, not64 hW, hw2, rd_s hc3, tmodN, e2, cadd1, if_neg hz]
      subst hK
      refine rnd_n (h * wds w - (n + 1)) (by omega) ⟨n + 1, rfl, by omega, rfl, map_close (b := b) ?_ ⟨z1, z2, z3⟩⟩
      rw [fin _ (inv_lt hW) fun k hk => ?_] at h3
      · exact h3.p1
      · rw [wb_inv hk, decide_eq_true (by unfold wds at hi hl; omega)]; rfl
  · obtain rfl : n = h * wds w := by omega
    simp -implicitDefEqProofs -dsimp (disch := omega) only [go_sem, Nat.reduceEqDiff, ↓reduceIte, Nat.reduceAdd, Nat.reduceMul, Nat.reduceSub, Nat.reduceLT, Nat.reduceLeDiff, Int.reduceLT, Int.reduceLE, Int.reduceEq, Int.reduceNeg, Int.reduceAdd, Int.reduceMul, Int.reduceSub, Int.reduceToNat, reduceCtorEq, dec_t, dec_f, bitmap_Map_Invert_l0]
    subst hK
    simp -implicitDefEqProofs -dsimp (disch := omega) only [go_sem, Nat.reduceEqDiff, ↓reduceIte, Nat.reduceAdd, Nat.reduceMul, Nat.reduceSub, Nat.reduceLT, Nat.reduceLeDiff, Int.reduceLT, Int.reduceLE, Int.reduceEq, Int.reduceNeg, Int.reduceAdd, Int.reduceMul, Int.reduceSub, Int.reduceToNat, reduceCtorEq, dec_t, dec_f, ]
    refine hQ H1 (h1.mapc fun i j hi hj => ?_)
    unfold invP
    rw [if_pos (word_at hj (wds_of hi))]
end
end Go.Ab
