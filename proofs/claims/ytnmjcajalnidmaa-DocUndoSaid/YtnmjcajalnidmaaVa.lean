/- Lists of one's own with room behind. Conditions: none. -/
import Derived.Test.YtnmjcajalnidmaaK4
set_option linter.all false
namespace Go.Ab
/-- A list of one's own: n elements, these cells; there may be room behind them. -/
def BufR (H : Heap) (v : V) (e n : Nat) (L : List V) : Prop :=
  (v = .sl none 0 0 0 ∧ n = 0 ∧ L = []) ∨ ∃ b c l, v = .sl (some (b, 0)) n c e ∧ H.get b = .cells l true ∧ L = l.take (n * e) ∧ n ≤ c ∧ c * e ≤ l.length ∧ b < H.next
theorem Own.bufr {H : Heap} {v : V} {e n : Nat} {L : List V} (h : Own H v e n L) : BufR H v e n L := by
  rcases h with h | ⟨b, hv, hg, hl, hb⟩
  · exact Or.inl h
  · exact Or.inr ⟨b, n, L, hv, hg, by rw [← hl, List.take_length], Nat.le_refl _, by omega, hb⟩
theorem BufR.arr {H : Heap} {v : V} {e n : Nat} {L : List V} (h : BufR H v e n L) : Arr H v e n L := by
  rcases h with h | ⟨b, c, l, hv, hg, hL, hc, hl, hb⟩
  · exact Or.inl h
  · have : n * e ≤ c * e := Nat.mul_le_mul_right _ hc
    exact Or.inr ⟨b, 0, c, l, true, hv, hg, by omega, by rw [List.drop_zero]; exact hL, hc, hb⟩
theorem BufR.same {S : Nat → Prop} {H H' : Heap} {v : V} {e n : Nat} {L : List V} (h : BufR H v e n L) (s : Same S H H') (hs : ∀ b, sb v b → ¬ S b) : BufR H' v e n L := by
  rcases h with h | ⟨b, c, l, hv, hg, hL, hc, hl, hb⟩
  · exact Or.inl h
  · exact Or.inr ⟨b, c, l, hv, (s.eq b hb (hs b (by rw [hv]; exact rfl))).trans hg, hL, hc, hl, Nat.lt_of_lt_of_le hb s.le⟩
def Buf (v : V) (e n : Nat) (L : List V) : As where
  ok F H := (∀ x, F x ↔ sb v x) ∧ BufR H v e n L
  st := fun {F H H'} ⟨h1, h2⟩ hn he => ⟨h1, h2.same (S := fun b => ¬ F b) ⟨hn, fun b _ hs => he b (Classical.not_not.1 hs)⟩ fun b hb h => h ((h1 b).2 hb)⟩
  lt := fun ⟨h1, h2⟩ b hb => h2.arr.lt ((h1 b).1 hb)
theorem Hs.bufr {H : Heap} {v : V} {e n : Nat} {L : List V} {R : List As} (h : Hs H (Buf v e n L :: R)) : BufR H v e n L := by obtain ⟨F, h1, _⟩ := h; exact h1.2
theorem Hs.buf {H : Heap} {v : V} {e n : Nat} {L : List V} {R : List As} (h : Hs H (Lst v e n L :: R)) : Hs H (Buf v e n L :: R) :=
  h.step fun F ⟨h1, h2⟩ => ⟨fun _ => False, F, Same.refl _ _, fun _ _ h => h.elim, ⟨h1, h2.bufr⟩, fun _ h => Or.inl h⟩
theorem Hs.buf' {H H' : Heap} {v v' : V} {e n e' n' : Nat} {L L' : List V} {R : List As} (h : Hs H (Buf v e n L :: R)) (s : Same (sb v) H H') (o : BufR H' v' e' n' L') (f : ∀ b, sb v' b → sb v b ∨ H.next ≤ b) : Hs H' (Buf v' e' n' L' :: R) :=
  h.step fun F ⟨h1, _⟩ => ⟨sb v, sb v', s, fun b _ hb => (h1 b).2 hb, ⟨fun _ => Iff.rfl, o⟩, fun b hb => (f b hb).imp_left fun hx => (h1 b).2 hx⟩
/-- The first elements, with as much room or less. -/
theorem BufR.cut {H : Heap} {b n c k c' e : Nat} {L : List V} (h : BufR H (.sl (some (b, 0)) n c e) e n L) (hk : k ≤ n) (h1 : k ≤ c') (h2 : c' ≤ c) : BufR H (.sl (some (b, 0)) k c' e) e k (L.take (k * e)) := by
  rcases h with ⟨hv, _⟩ | ⟨b', c'', l, hv, hg, hL, hc, hl, hb⟩
  · cases hv
  · cases hv
    have e1 : c' * e ≤ c * e := Nat.mul_le_mul_right _ h2
    have e2 : k * e ≤ n * e := Nat.mul_le_mul_right _ hk
    exact Or.inr ⟨b, c', l, rfl, hg, by rw [hL, List.take_take, Nat.min_eq_left e2], h1, by omega, hb⟩
/-- Elements are laid behind. -/
theorem app_buf {H : Heap} {v y : V} {e eb n m : Nat} {L M : List V} (h : BufR H v e n L) (hy : firsts H e y = some (m, M)) (hm : M.length = m * e) (ho : M.all one = true)
    (he : 0 < e) (hg : (2 * (n + m) + 1024) * eb ≤ 281474976710656) :
    ∃ v' H', app H e eb v y = some (v', H') ∧ BufR H' v' e (n + m) (L ++ M) ∧ Same (sb v) H H' ∧ (∀ b, sb v' b → sb v b ∨ H.next ≤ b) := by
  rcases h with h | ⟨b, c, l, hv, hgb, hL, hc, hl, hb⟩
  · obtain ⟨v', H', h1, h2, h3, h4⟩ := app_own (Or.inl h) hy hm ho he hg
    exact ⟨v', H', h1, h2.bufr, h3, h4⟩
  · subst hv
    have e0 : n * e ≤ c * e := Nat.mul_le_mul_right _ hc
    by_cases hcap : n + m ≤ c
    · have e1 : (n + m) * e ≤ c * e := Nat.mul_le_mul_right _ hcap
      rw [Nat.add_mul] at e1
      cases hM : M.isEmpty with
      | true =>
        have hM : M = [] := List.isEmpty_iff.1 hM
        subst hM
        obtain rfl : m = 0 := by
          rcases Nat.eq_zero_or_pos m with k | k
          · exact k
          · have := Nat.mul_pos k he; simp at hm; omega
        refine ⟨_, _, by simp only [app, hy, Option.isSome_some, bne_self_eq_false, Bool.and_false, Bool.false_eq_true, if_false, ho, if_true, if_pos hc, List.isEmpty_nil, Nat.add_zero], ?_, Same.refl _ _, fun _ h => Or.inl h⟩
        exact Or.inr ⟨b, c, l, rfl, hgb, by rw [List.append_nil]; exact hL, hc, hl, hb⟩
      | false =>
        refine ⟨.sl (some (b, 0)) (n + m) c e, H.put b (.cells (over l (n * e) M) true), ?_, Or.inr ⟨b, c, over l (n * e) M, rfl, by simp only [get_put, if_true], ?_, hcap, ?_, by simpa [next_put] using hb⟩, Same.put rfl, fun _ h => Or.inl h⟩
        · simp only [app, hy, Option.isSome_some, bne_self_eq_false, Bool.and_false, Bool.false_eq_true, if_false, ho, if_true, if_pos hcap, hM, wr, hgb, Nat.zero_add]
          rw [if_pos (by omega)]; rfl
        · rw [hL, Nat.add_mul, ← hm]
          simp only [over]
          rw [List.take_append_of_le_length (by simp only [List.length_append, List.length_take]; omega)]
          exact (List.take_of_length_le (by simp only [List.length_append, List.length_take]; omega)).symm
        · simp only [over, List.length_append, List.length_take, List.length_drop]; omega
    · refine ⟨.sl (some (H.next, 0)) (n + m) (n + m) e, (H.put b .dead).new (.cells (L ++ M) true), ?_, Or.inr ⟨H.next, n + m, L ++ M, rfl, by simp only [get_new, next_put, if_true], ?_, Nat.le_refl _, ?_, by simp [next_new, next_put]⟩, ?_, fun x hx => Or.inr (Nat.le_of_eq hx.symm)⟩
      · simp only [app, hy, Option.isSome_some, bne_self_eq_false, Bool.and_false, Bool.false_eq_true, if_false, ho, if_true, if_neg hcap, growOk, hgb, piece, Nat.zero_add]
        rw [if_pos (by simpa using hg), if_pos (by omega), hL]; simp
      · have e2 : L.length = n * e := by rw [hL]; simp; omega
        rw [List.take_of_length_le (by simp only [List.length_append, e2, hm, Nat.add_mul]; omega)]
      · have e2 : L.length = n * e := by rw [hL]; simp; omega
        simp only [List.length_append, e2, hm, Nat.add_mul]; omega
      · exact (Same.put (S := sb (.sl (some (b, 0)) n c e)) (b := b) (o := .dead) rfl).trans (Same.new (sb (.sl (some (b, 0)) n c e)) _ _) fun _ _ h => h
theorem app_buf1 {H : Heap} {v : V} {e eb n m : Nat} {L M : List V} (h : BufR H v e n L) (hm : M.length = m * e) (ho : M.all one = true) (he : 0 < e) (hg : (2 * (n + m) + 1024) * eb ≤ 281474976710656) :
    ∃ v' H', app (H.new (.cells M true)) e eb v (.sl (some (H.next, 0)) m m e) = some (v', H') ∧ BufR H' v' e (n + m) (L ++ M) ∧ Same (sb v) H H' ∧ (∀ b, sb v' b → sb v b ∨ H.next ≤ b) := by
  have h1 : BufR (H.new (.cells M true)) v e n L := h.same (Same.new (fun _ => False) _ _) (fun _ _ h => h)
  obtain ⟨v', H', ha, hb, hs, hf⟩ := app_buf h1 (firsts_new1 H M e m hm) hm ho he hg
  refine ⟨v', H', ha, hb, (Same.new (sb v) _ _).trans hs fun _ _ h => h, fun b hb => (hf b hb).elim Or.inl fun hx => Or.inr ?_⟩
  simp only [next_new] at hx; omega
/-- An element is written. -/
theorem wr_buf {H : Heap} {b n c e : Nat} {L : List V} (h : BufR H (.sl (some (b, 0)) n c e) e n L) {i : Nat} (hi : i < n) {vs : List V} (hk : vs.length = e) (ho : vs.all one = true) :
    ∃ H', wr H b (i * e) vs = some H' ∧ BufR H' (.sl (some (b, 0)) n c e) e n (over L (i * e) vs) ∧ Same (sb (.sl (some (b, 0)) n c e)) H H' := by
  rcases h with ⟨hv, _⟩ | ⟨b', c', l, hv, hg, hL, hc, hl, hb⟩
  · cases hv
  · cases hv
    have hie : i * e + e ≤ n * e := by rw [← Nat.succ_mul]; exact Nat.mul_le_mul_right e hi
    have e0 : n * e ≤ c * e := Nat.mul_le_mul_right _ hc
    refine ⟨H.put b (.cells (over l (i * e) vs) true), ?_, Or.inr ⟨b, c, over l (i * e) vs, rfl, by simp only [get_put, if_true], ?_, hc, ?_, by simpa [next_put] using hb⟩, Same.put rfl⟩
    · simp only [wr, hg]; rw [if_pos (by omega), if_pos ho]
    · rw [hL]
      simp only [over]
      rw [List.take_take, Nat.min_eq_left (by omega), hk, List.take_append, List.take_append, List.take_of_length_le (l := List.take (i * e) l) (by simp; omega), List.take_of_length_le (l := vs) (by simp; omega)]
      simp only [List.length_append, List.length_take, hk, List.drop_take]
      rw [Nat.min_eq_left (show i * e ≤ l.length by omega)]
    · simp only [over, List.length_append, List.length_take, List.length_drop]; omega
end Go.Ab
