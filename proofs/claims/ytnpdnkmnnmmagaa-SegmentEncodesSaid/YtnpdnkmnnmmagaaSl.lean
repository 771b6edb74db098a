/- A header that is cut ends too early; what is read as a header is the header of what was read; a header is read again. Conditions: none; plain laws. -/
import Derived.Test.YtnpdnkmnnmmagaaSk
set_option linter.all false
namespace Go.Ab
def CM {α : Type} (k p : Nat) (pos : α → Nat) (x y : Except Int α) : Prop := (∀ v, x = .ok v → p ≤ pos v) ∧ (p ≤ 8 * k → Cut k pos x y)
theorem cm_exb {α β : Type} {k p : Nat} {pos : α → Nat} {pos' : β → Nat} {x y : Except Int α} {f g : α → Except Int β} (h : CM k p pos x y) (hf : ∀ v, CM k (pos v) pos' (f v) (g v)) : CM k p pos' (exb x f) (exb y g) := by
  refine ⟨fun w hw => ?_, fun hp => cut_exb (h.2 hp) (fun v _ hv => (hf v).2 hv) fun v w h1 h2 => (hf v).1 w h2⟩
  cases x with
  | error e => cases hw
  | ok v => exact Nat.le_trans (h.1 v rfl) ((hf v).1 w hw)
theorem cm_er {α : Type} {k p : Nat} {pos : α → Nat} {e : Int} {y : Except Int α} : CM k p pos (.error e) y := ⟨(fun v h => nomatch h), fun _ => cut_er⟩
theorem cm_ok {α : Type} {k p : Nat} {pos : α → Nat} {v : α} (h : p = pos v) : CM k p pos (.ok v) (.ok v) := ⟨fun w e => by cases e; omega, fun hp => cut_ok (by omega)⟩
theorem head_cm {T : List Nat} {k : Nat} (hk : k ≤ T.length) : CM k 0 (fun v => v.2.2) (headR T) (headR (T.take k)) := by
  have nm : ∀ bd a, CM k a Prod.snd (numR T bd a) (numR (T.take k) bd a) := fun bd a => ⟨fun v h => numR_le h, num_cut hk⟩
  unfold headR
  refine cm_exb (nm _ _) fun p => cm_exb ⟨fun v h => takR_le h, tak_cut hk (w := 8) (by omega)⟩ fun q => ?_
  split
  · refine cm_exb (nm _ _) fun g => ?_
    split
    · refine cm_exb (nm _ _) fun c => ?_
      split
      · exact cm_er
      · refine cm_exb ⟨fun v h => refsR_le h, refs_cut hk⟩ fun l => cm_exb ⟨fun v h => keepR_le h, keep_cut hk⟩ fun kk => cm_exb ⟨fun v h => flgR_le h, flg_cut hk⟩ fun st => ?_
        split
        · exact cm_er
        · refine cm_exb (pos := id) ⟨fun v h => alnR_le h, aln_cut hk⟩ fun a => cm_exb (nm _ _) fun n => ?_
          split
          · exact cm_er
          · exact cm_ok rfl
    · exact cm_er
  · exact cm_er
theorem head_cut {T : List Nat} {k : Nat} (hk : k ≤ T.length) {v : Sg × Nat × Nat} (h : headR T = .ok v) (ha : 8 * k < v.2.2) : headR (T.take k) = .error 163 := ((head_cm hk).2 (Nat.zero_le _) v h).2 ha

theorem exb_inv {α β : Type} {x : Except Int α} {f : α → Except Int β} {w : β} (h : exb x f = .ok w) : ∃ v, x = .ok v ∧ f v = .ok w := by
  cases x with
  | error e => cases h
  | ok v => exact ⟨v, rfl, h⟩
section
variable {bs : List Nat} (hs : ∀ b ∈ bs, b < 256)
include hs
theorem told_at {p q : List Nat} (e : bs = p ++ q) {i : Nat} (hi : i < q.length) : toldN bs (8 * p.length + 8 * i) 8 = q[i] := by
  have hl : p.length + i < bs.length := by rw [e, List.length_append]; omega
  have := told8_byte hl hs
  rw [show 8 * p.length + 8 * i = 8 * (p.length + i) by omega, this]
  subst e
  rw [List.getElem_append_right (by omega)]
  simp
theorem num_inv {p q : List Nat} (e : bs = p ++ q) {bd n a' : Nat} (h : numR bs bd (8 * p.length) = .ok (n, a')) : n < bd ∧ ∃ q', bs = p ++ groups n ++ q' ∧ a' = 8 * (p ++ groups n).length := by
  obtain ⟨h1, h2⟩ := numR_ok h
  obtain ⟨h3, h4, h5⟩ := rVar_inv h1
  have hl : bs.length = p.length + q.length := by rw [e, List.length_append]
  have hq : (groups n).length ≤ q.length := by omega
  have e2 : q.take (groups n).length = groups n := by
    refine List.ext_getElem (by rw [List.length_take]; omega) fun i k1 k2 => ?_
    rw [List.getElem_take, ← told_at hs e (by omega)]
    exact h5 i k2
  refine ⟨h2, q.drop (groups n).length, ?_, by rw [List.length_append, h3]; omega⟩
  rw [List.append_assoc]
  conv => rhs; rw [← e2]
  rw [e2, ← e2]
  simp only [List.length_take, Nat.min_eq_left hq]
  rw [List.take_append_drop]
  exact e
theorem tak_inv {p q : List Nat} (e : bs = p ++ q) {n a' : Nat} (h : takR bs (8 * p.length) 8 = .ok (n, a')) : n < 256 ∧ ∃ q', bs = p ++ [n] ++ q' ∧ a' = 8 * (p ++ [n]).length := by
  have h1 := takR_ok h
  unfold rTake at h1
  rw [if_neg (by omega)] at h1
  split at h1
  · simp at h1
  · rename_i h2
    simp only [Prod.mk.injEq] at h1
    obtain ⟨h3, _, h4⟩ := h1
    have hl : bs.length = p.length + q.length := by rw [e, List.length_append]
    have hq : 0 < q.length := by omega
    have h5 := told_at hs e hq
    obtain ⟨b, q', rfl⟩ : ∃ b q', q = b :: q' := by
      cases q with
      | nil => simp at hq
      | cons b q' => exact ⟨b, q', rfl⟩
    have : n = b := by
      rw [show (8 : Int).toNat = 8 from rfl] at h3
      rw [← h3]; simpa using h5
    subst this
    refine ⟨hs n (by rw [e]; simp), q', by rw [e]; simp, by rw [List.length_append, List.length_singleton, ← h4, show (8 : Int).toNat = 8 from rfl]; omega⟩
theorem refs_inv {num : Nat} : ∀ {k : Nat} {ah : Int} {p q : List Nat} {L : List Int} {a' : Nat}, bs = p ++ q → refsR bs num k ah (8 * p.length) = .ok (L, a') →
    L.length = k ∧ incrF num ah L = true ∧ ∃ q', bs = p ++ (L.flatMap fun n => groups n.toNat) ++ q' ∧ a' = 8 * (p ++ L.flatMap fun n => groups n.toNat).length
  | 0, ah, p, q, L, a', e, h => by
    cases h
    exact ⟨rfl, rfl, q, by simpa using e, by simp⟩
  | k + 1, ah, p, q, L, a', e, h => by
    unfold refsR at h
    obtain ⟨⟨n, a1⟩, h1, h2⟩ := exb_inv h
    dsimp only at h2
    split at h2
    · cases h2
    · rename_i hn
      obtain ⟨⟨L2, a2⟩, h3, h4⟩ := exb_inv h2
      cases h4
      obtain ⟨h5, q1, e1, ea⟩ := num_inv hs e h1
      subst ea
      obtain ⟨h6, h7, q2, e2, ea2⟩ := refs_inv e1 h3
      refine ⟨by rw [List.length_cons, h6], ?_, q2, ?_, ?_⟩
      · rw [incrF, dec_t (show ah < n by omega), dec_t (show (n : Int) < num by omega)]
        simpa using h7
      · rw [List.flatMap_cons, Int.toNat_natCast, ← List.append_assoc]; exact e2
      · rw [List.flatMap_cons, Int.toNat_natCast, ← List.append_assoc]; exact ea2
omit hs in
theorem flg_inv {a a' : Nat} {b : Bool} (h : flgR bs a = .ok (b, a')) : b = bitAt bs a ∧ a' = a + 1 ∧ a' ≤ 8 * bs.length := by
  unfold flgR at h
  obtain ⟨⟨n, c⟩, h1, h2⟩ := exb_inv h
  cases h2
  have h1 := takR_ok h1
  unfold rTake at h1
  rw [if_neg (by omega)] at h1
  split at h1
  · simp at h1
  · simp only [Prod.mk.injEq, show (1 : Int).toNat = 1 from rfl] at h1
    obtain ⟨h3, _, h4⟩ := h1
    simp only [toldN, Nat.mul_zero, Nat.zero_add, Nat.add_zero] at h3
    refine ⟨?_, h4.symm, by omega⟩
    rw [← h3]
    cases bitAt bs a <;> rfl
omit hs in
theorem keep_inv : ∀ {k a a' : Nat} {K : List Bool}, keepR bs k a = .ok (K, a') → K.length = k ∧ a' = a + k ∧ ∀ i (h : i < K.length), K[i] = bitAt bs (a + i)
  | 0, _, _, _, h => by cases h; exact ⟨rfl, rfl, fun i h => by cases h⟩
  | k + 1, a, a', K, h => by
    unfold keepR at h
    obtain ⟨⟨b, a1⟩, h1, h2⟩ := exb_inv h
    obtain ⟨⟨K2, a2⟩, h3, h4⟩ := exb_inv h2
    cases h4
    obtain ⟨e1, e2, _⟩ := flg_inv h1
    subst e2
    obtain ⟨e3, e4, e5⟩ := keep_inv h3
    dsimp only at e4 e5 ⊢
    refine ⟨by rw [List.length_cons, e3], by omega, fun i hi => ?_⟩
    cases i with
    | zero => simpa using e1
    | succ i =>
      rw [List.getElem_cons_succ, e5 i (by simpa using hi)]
      congr 1; omega
theorem bits_inv {p q : List Nat} (e : bs = p ++ q) {l : List Bool} (h1 : ∀ i (h : i < l.length), l[i] = bitAt bs (8 * p.length + i)) (h2 : ∀ i, l.length ≤ i → i < 8 * (pack l).length → bitAt bs (8 * p.length + i) = false) (h3 : 8 * p.length + 8 * (pack l).length ≤ 8 * bs.length) :
    ∃ q', bs = p ++ pack l ++ q' := by
  have hl : bs.length = p.length + q.length := by rw [e, List.length_append]
  have hm : (pack l).length ≤ q.length := by omega
  have hq : ∀ b ∈ q.take (pack l).length, b < 256 := fun b hb => hs b (by rw [e]; exact List.mem_append_right _ (List.mem_of_mem_take hb))
  have bq : ∀ i, bitAt bs (8 * p.length + i) = bitAt q i := fun i => by
    unfold bitAt
    rw [show (8 * p.length + i) / 8 = p.length + i / 8 by omega, show (8 * p.length + i) % 8 = i % 8 by omega, e, List.getD_eq_getElem?_getD, List.getD_eq_getElem?_getD, List.getElem?_append_right (by omega)]
    congr 3; omega
  have hb : bytesBits (q.take (pack l).length) = wAlign l := by
    have hlen : (bytesBits (q.take (pack l).length)).length = (wAlign l).length := by rw [bytesBits_length, List.length_take, Nat.min_eq_left hm, wAlign_length, pack_length]; omega
    refine List.ext_getElem hlen fun k k1 k2 => ?_
    have e1 := bitAt_bytes hq k
    rw [List.getD_eq_getElem?_getD, List.getElem?_eq_getElem k1, Option.getD_some] at e1
    have hk : k < 8 * (pack l).length := by rw [bytesBits_length, List.length_take] at k1; omega
    rw [← e1, take_bit hk]
    by_cases hk2 : k < l.length
    · rw [wA_at k2, List.getD_eq_getElem?_getD, List.getElem?_eq_getElem hk2, Option.getD_some, h1 k hk2, bq]
    · rw [wA_at k2, List.getD_eq_getElem?_getD, List.getElem?_eq_none (by omega), Option.getD_none, ← bq]
      exact h2 k (by omega) hk
  have e2 : q.take (pack l).length = pack l := by rw [← pack_bytes hq, hb, pack_wAlign]
  refine ⟨q.drop (pack l).length, ?_⟩
  have e3 := List.take_append_drop (pack l).length q
  rw [e2] at e3
  rw [List.append_assoc, e3]
  exact e
end
end Go.Ab
