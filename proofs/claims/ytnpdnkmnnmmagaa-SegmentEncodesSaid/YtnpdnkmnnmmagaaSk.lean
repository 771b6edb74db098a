/- What is read as a header's numbers and bits: it is what was written; cut it ends too early. Conditions: none; plain laws. -/
import Derived.Test.YtnpdnkmnnmmagaaSg
import Derived.Test.YtnpdnkmnnmmagaaSj
set_option linter.all false
namespace Go.Ab
theorem rVarF_inv (bs : List Nat) (a0 : Nat) : ∀ f i n a m a', f + i = 10 → rVarF bs a0 f i n a = (m, 0, a') →
    ∃ x, m = n + x * 2 ^ (7 * i) ∧ (0 < i → 0 < x) ∧ a' = a + 8 * (groups x).length ∧ a' ≤ 8 * bs.length ∧ ∀ j (h : j < (groups x).length), toldN bs (a + 8 * j) 8 = (groups x)[j]
  | 0, _, _, _, _, _, _, h => by simp [rVarF] at h
  | f + 1, i, n, a, m, a', hf, h => by
    unfold rVarF at h
    split at h
    · simp at h
    · rename_i h0
      split at h
      · simp at h
      · rename_i h1
        have hg := toldN_lt bs a 8
        generalize hgg : toldN bs a 8 = g at *
        split at h
        · rename_i h2
          simp only [Prod.mk.injEq] at h
          obtain ⟨rfl, _, rfl⟩ := h
          have e : groups g = [g] := by rw [groups, if_pos h2]
          have eg : g % 128 = g := Nat.mod_eq_of_lt h2
          refine ⟨g, by rw [eg], fun hi => by omega, by rw [e]; rfl, by omega, fun j hj => ?_⟩
          simp only [e, List.length_singleton] at hj
          have : j = 0 := by omega
          subst this
          simp [e, hgg]
        · rename_i h2
          obtain ⟨x, e1, e2, e3, e4, e5⟩ := rVarF_inv bs a0 f (i + 1) _ _ m a' (by omega) h
          have hx := e2 (by omega)
          have ex : groups (g % 128 + 128 * x) = g :: groups x := by
            rw [groups, if_neg (by omega)]
            have d1 : (g % 128 + 128 * x) % 128 + 128 = g := by omega
            have d2 : (g % 128 + 128 * x) / 128 = x := by omega
            rw [d1, d2]
          refine ⟨g % 128 + 128 * x, ?_, fun _ => by omega, ?_, e4, fun j hj => ?_⟩
          · rw [e1, Nat.mul_add, Nat.pow_add, show 2 ^ (7 * 1) = 128 by decide, Nat.add_mul, Nat.add_assoc]
            congr 2
            rw [← Nat.mul_assoc, Nat.mul_right_comm, Nat.mul_comm x 128]
          · rw [e3, ex, List.length_cons]; omega
          · cases j with
            | zero => simp [ex, hgg]
            | succ j =>
              have hj' : j < (groups x).length := by rw [ex, List.length_cons] at hj; omega
              have := e5 j hj'
              rw [show a + 8 * (j + 1) = a + 8 + 8 * j by omega, this]
              simp [ex]
theorem rVar_inv {bs : List Nat} {a m a' : Nat} (h : rVar bs a = (m, 0, a')) : a' = a + 8 * (groups m).length ∧ a' ≤ 8 * bs.length ∧ ∀ j (h : j < (groups m).length), toldN bs (a + 8 * j) 8 = (groups m)[j] := by
  obtain ⟨x, e1, _, e3, e4, e5⟩ := rVarF_inv bs a 10 0 0 a m a' rfl h
  have : m = x := by simpa using e1
  subst this
  exact ⟨e3, e4, e5⟩
theorem numR_ok {bs : List Nat} {bd a n a' : Nat} (h : numR bs bd a = .ok (n, a')) : rVar bs a = (n, 0, a') ∧ n < bd := by
  unfold numR at h
  split at h
  · cases h
  · split at h
    · cases h
    · rename_i h1 h2
      split at h
      · cases h
      · rename_i h3
        cases h
        have h2 : (rVar bs a).2.1 = 0 := Classical.not_not.1 h2
        exact ⟨Prod.ext rfl (Prod.ext h2 rfl), by omega⟩
theorem numR_of {bs : List Nat} {bd a n a' : Nat} (h : rVar bs a = (n, 0, a')) (hn : n < bd) : numR bs bd a = .ok (n, a') := by
  unfold numR
  rw [h]
  rw [if_neg (by simp), if_neg (by simp), if_neg (by dsimp only; omega)]
theorem numR_er {bs : List Nat} {bd a e : Nat} (h : (rVar bs a).2.1 = 14) : numR bs bd a = .error 163 := if_pos h
theorem take_bit {T : List Nat} {k j : Nat} (h : j < 8 * k) : bitAt (T.take k) j = bitAt T j := by
  unfold bitAt
  rw [List.getD_eq_getElem?_getD, List.getD_eq_getElem?_getD, List.getElem?_take, if_pos (by omega)]
theorem take_told {T : List Nat} {k a : Nat} : ∀ {w : Nat}, a + w ≤ 8 * k → toldN (T.take k) a w = toldN T a w
  | 0, _ => rfl
  | w + 1, h => by rw [toldN, toldN, take_told (by omega), take_bit (by omega)]
/-- How a read of the first k bytes stands to a read of all. -/
def Cut {α : Type} (k : Nat) (pos : α → Nat) (x y : Except Int α) : Prop := ∀ v, x = .ok v → (pos v ≤ 8 * k → y = .ok v) ∧ (8 * k < pos v → y = .error 163)
theorem cut_exb {α β : Type} {k : Nat} {pos : α → Nat} {pos' : β → Nat} {x y : Except Int α} {f g : α → Except Int β} (h : Cut k pos x y) (hf : ∀ v, x = .ok v → pos v ≤ 8 * k → Cut k pos' (f v) (g v)) (hm : ∀ v w, x = .ok v → f v = .ok w → pos v ≤ pos' w) : Cut k pos' (exb x f) (exb y g) := by
  intro w hw
  cases x with
  | error e => cases hw
  | ok v =>
    rw [exb_ok] at hw
    obtain ⟨h1, h2⟩ := h v rfl
    have hm := hm v w rfl hw
    by_cases hp : pos v ≤ 8 * k
    · rw [h1 hp]
      exact hf v rfl hp w hw
    · rw [h2 (by omega)]
      exact ⟨fun h => by omega, fun _ => rfl⟩
theorem cut_ok {α : Type} {k : Nat} {pos : α → Nat} {v : α} (h : pos v ≤ 8 * k) : Cut k pos (.ok v) (.ok v) := fun w e => by cases e; exact ⟨fun _ => rfl, fun k => by omega⟩
theorem cut_er {α : Type} {k : Nat} {pos : α → Nat} {e : Int} {y : Except Int α} : Cut k pos (.error e) y := fun w e => by cases e
section
variable {T : List Nat} {k : Nat} (hk : k ≤ T.length)
include hk
theorem num_cut {bd a : Nat} (ha : a ≤ 8 * k) : Cut k Prod.snd (numR T bd a) (numR (T.take k) bd a) := by
  rintro ⟨n, a'⟩ h
  obtain ⟨h1, h2⟩ := numR_ok h
  obtain ⟨h3, h4, h5⟩ := rVar_inv h1
  have hn : n < 18446744073709551616 := by have := rVar_lt T a; rw [h1] at this; exact this
  have hl : (T.take k).length = k := by rw [List.length_take]; omega
  refine ⟨fun hp => ?_, fun hp => ?_⟩
  · dsimp only at hp
    refine numR_of ?_ h2
    rw [h3]
    exact rVar_go hn (by rw [hl]; omega) fun i hi => by rw [take_told (by omega)]; exact h5 i hi
  · dsimp only at hp
    refine numR_er (e := 0) ?_
    have := rVarF_short (bs := T.take k) (gs := []) (n := n) (k := (8 * k - a) / 8) (a := a) (by omega) (by rw [hl]; omega) (by rw [hl]; omega) (fun i hi => by rw [take_told (by omega)]; exact h5 i (by omega)) (groups_le hn) 10 0 (by omega) rfl 0
    show (rVarF (T.take k) a 10 0 0 a).2.1 = 14
    rw [show a + 8 * 0 = a by omega] at this
    rw [this]
theorem tak_cut {a w : Nat} (hw : w ≤ 64) (ha : a ≤ 8 * k) : Cut k Prod.snd (takR T a w) (takR (T.take k) a w) := by
  rintro ⟨n, a'⟩ h
  have h1 := takR_ok h
  have hl : (T.take k).length = k := by rw [List.length_take]; omega
  unfold rTake at h1
  rw [if_neg (by omega)] at h1
  split at h1
  · simp at h1
  · rename_i h2
    simp only [Prod.mk.injEq, Int.toNat_natCast] at h1
    obtain ⟨h3, _, h4⟩ := h1
    refine ⟨fun hp => ?_, fun hp => ?_⟩
    · dsimp only at hp
      unfold takR rTake
      rw [if_neg (show ¬ ((w : Int) < 0 ∨ 64 < (w : Int)) by omega), if_neg (show ¬ (8 * ((T.take k).length : Int) - a < w) by rw [hl]; omega)]
      rw [if_neg (by simp), if_neg (by simp)]
      simp only [Int.toNat_natCast]
      rw [take_told (by omega), h3, h4]
    · dsimp only at hp
      unfold takR rTake
      rw [if_neg (show ¬ ((w : Int) < 0 ∨ 64 < (w : Int)) by omega), if_pos (show (8 * ((T.take k).length : Int) - a < w) by rw [hl]; omega)]
      rfl
theorem flg_cut {a : Nat} (ha : a ≤ 8 * k) : Cut k Prod.snd (flgR T a) (flgR (T.take k) a) :=
  cut_exb (tak_cut hk (w := 1) (by omega) ha) (fun v _ h => cut_ok h) fun v w _ e => by cases e; exact Nat.le_refl _
theorem aln_cut {a : Nat} (ha : a ≤ 8 * k) : Cut k id (alnR T a) (alnR (T.take k) a) := by
  intro a' h
  have e : rAlign (T.take k) a = rAlign T a := by unfold rAlign; rw [take_told (by omega)]
  have hle : a' ≤ 8 * k := by
    unfold alnR at h
    split at h
    · cases h
    · split at h
      · cases h
      · rename_i h1 h2
        cases h
        unfold rAlign at h2 ⊢
        split
        · exact ha
        · dsimp only; omega
  exact ⟨fun _ => by unfold alnR at h ⊢; rw [e]; exact h, fun hp => by dsimp only [id] at hp; omega⟩
end
theorem numR_le {bs : List Nat} {bd a n a' : Nat} (h : numR bs bd a = .ok (n, a')) : a ≤ a' := by
  have := rVar_inv (numR_ok h).1; omega
theorem takR_le {bs : List Nat} {a n a' : Nat} {w : Int} (h : takR bs a w = .ok (n, a')) : a ≤ a' := by
  have := takR_ok h
  unfold rTake at this
  split at this
  · simp at this
  · split at this
    · simp at this
    · simp only [Prod.mk.injEq] at this; omega
theorem flgR_le {bs : List Nat} {a a' : Nat} {b : Bool} (h : flgR bs a = .ok (b, a')) : a ≤ a' := by
  unfold flgR at h
  cases h1 : takR bs a 1 with
  | error e => rw [h1] at h; cases h
  | ok v => obtain ⟨n, c⟩ := v; rw [h1] at h; cases h; exact takR_le h1
theorem alnR_le {bs : List Nat} {a a' : Nat} (h : alnR bs a = .ok a') : a ≤ a' := by
  unfold alnR at h
  split at h
  · cases h
  · split at h
    · cases h
    · cases h
      unfold rAlign
      split <;> dsimp only <;> omega
theorem refsR_le {bs : List Nat} {num : Nat} : ∀ {k : Nat} {ah : Int} {a : Nat} {v : List Int × Nat}, refsR bs num k ah a = .ok v → a ≤ v.2
  | 0, _, _, _, h => by cases h; exact Nat.le_refl _
  | k + 1, ah, a, v, h => by
    unfold refsR at h
    cases h1 : numR bs num a with
    | error e => rw [h1] at h; cases h
    | ok p =>
      rw [h1, exb_ok] at h
      split at h
      · cases h
      · cases h2 : refsR bs num k p.1 p.2 with
        | error e => rw [h2] at h; cases h
        | ok q =>
          rw [h2] at h
          cases h
          exact Nat.le_trans (numR_le h1) (show p.2 ≤ q.2 from refsR_le h2)
theorem keepR_le {bs : List Nat} : ∀ {k : Nat} {a : Nat} {v : List Bool × Nat}, keepR bs k a = .ok v → a ≤ v.2
  | 0, _, _, h => by cases h; exact Nat.le_refl _
  | k + 1, a, v, h => by
    unfold keepR at h
    cases h1 : flgR bs a with
    | error e => rw [h1] at h; cases h
    | ok p =>
      rw [h1, exb_ok] at h
      cases h2 : keepR bs k p.2 with
      | error e => rw [h2] at h; cases h
      | ok q =>
        rw [h2] at h
        cases h
        exact Nat.le_trans (flgR_le h1) (show p.2 ≤ q.2 from keepR_le h2)
theorem refs_cut {T : List Nat} {k : Nat} (hk : k ≤ T.length) {num : Nat} : ∀ {m : Nat} {ah : Int} {a : Nat}, a ≤ 8 * k → Cut k Prod.snd (refsR T num m ah a) (refsR (T.take k) num m ah a)
  | 0, _, _, h => cut_ok h
  | m + 1, ah, a, h => by
    unfold refsR
    refine cut_exb (num_cut hk h) (fun v _ hv => ?_) fun v w h1 h2 => ?_
    · split
      · exact cut_er
      · exact cut_exb (refs_cut hk hv) (fun u _ hu => cut_ok hu) fun u w _ e => by cases e; exact Nat.le_refl _
    · split at h2
      · cases h2
      · cases h3 : refsR T num m v.1 v.2 with
        | error e => rw [h3] at h2; cases h2
        | ok q => rw [h3] at h2; cases h2; exact (show v.2 ≤ q.2 from refsR_le h3)
theorem keep_cut {T : List Nat} {k : Nat} (hk : k ≤ T.length) : ∀ {m : Nat} {a : Nat}, a ≤ 8 * k → Cut k Prod.snd (keepR T m a) (keepR (T.take k) m a)
  | 0, _, h => cut_ok h
  | m + 1, a, h => by
    unfold keepR
    refine cut_exb (flg_cut hk h) (fun v _ hv => ?_) fun v w h1 h2 => ?_
    · exact cut_exb (keep_cut hk hv) (fun u _ hu => cut_ok hu) fun u w _ e => by cases e; exact Nat.le_refl _
    · cases h3 : keepR T m v.2 with
      | error e => rw [h3] at h2; cases h2
      | ok q => rw [h3] at h2; cases h2; exact (show v.2 ≤ q.2 from keepR_le h3)
end Go.Ab
