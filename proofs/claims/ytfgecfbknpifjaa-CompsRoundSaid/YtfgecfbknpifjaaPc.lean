/- Runs against pixels. Conditions: none. -/
import Derived.Test.YtfgecfbknpifjaaPb
set_option linter.all false
namespace Go.Ab
theorem blkSt9 (f : Nat → Bool) : ∀ t, f t = true → ∃ s, s ≤ t ∧ (s = 0 ∨ f (s - 1) = false) ∧ ∀ z, s ≤ z → z ≤ t → f z = true
  | 0, h => ⟨0, Nat.le_refl _, Or.inl rfl, fun z _ hz => by rw [show z = 0 by omega]; exact h⟩
  | t + 1, h => by
    by_cases k : f t = true
    · obtain ⟨s, h1, h2, h3⟩ := blkSt9 f t k
      refine ⟨s, by omega, h2, fun z a b => ?_⟩
      by_cases e : z = t + 1
      · rw [e]; exact h
      · exact h3 z a (by omega)
    · exact ⟨t + 1, Nat.le_refl _, Or.inr (by simpa using k), fun z a b => by rw [show z = t + 1 by omega]; exact h⟩
theorem rl_ind9 {f : Nat → Bool} {M : Nat → List (Int × Int) → Prop} (h0 : M 0 []) (h1 : ∀ x, f x = false → M x (rl f x) → M (x + 1) (rl f x))
    (h2 : ∀ s x, s < x → (s = 0 ∨ f (s - 1) = false) → (∀ z, s ≤ z → z < x → f z = true) → M s (rl f s) → M x (rl f s ++ [((s : Int), (x : Int))])) : ∀ x, M x (rl f x) := fun x => by
  induction x using Nat.strongRecOn with
  | ind x ih =>
    cases x with
    | zero => exact h0
    | succ t =>
      by_cases k : f t = true
      · obtain ⟨s, a1, a2, a3⟩ := blkSt9 f t k
        rw [rl_run a2 (t + 1) (by omega) fun z a b => a3 z a (by omega)]
        exact h2 s (t + 1) (by omega) a2 (fun z a b => a3 z a (by omega)) (ih s (by omega))
      · have k : f t = false := by simpa using k
        have e : rl f (t + 1) = rl f t := rl_none (t + 1) (by omega) fun z a b => by rw [show z = t by omega]; exact k
        rw [e]
        exact h1 t k (ih t (by omega))
structure RunOk9 (f : Nat → Bool) (x a b : Nat) : Prop where
  lt : a < b
  le : b ≤ x
  on : ∀ z, a ≤ z → z < b → f z = true
  st : a = 0 ∨ f (a - 1) = false
  en : b < x → f b = false
theorem rl_ok9 (f : Nat → Bool) : ∀ x, ∀ r ∈ rl f x, ∃ a b : Nat, r = ((a : Int), (b : Int)) ∧ RunOk9 f x a b :=
  rl_ind9 (M := fun x l => ∀ r ∈ l, ∃ a b : Nat, r = ((a : Int), (b : Int)) ∧ RunOk9 f x a b) (fun r h => by cases h)
    (fun x k ih r hr => by
      obtain ⟨a, b, e, h⟩ := ih r hr
      refine ⟨a, b, e, h.lt, by have := h.le; omega, h.on, h.st, fun hb => ?_⟩
      by_cases e2 : b = x
      · rw [e2]; exact k
      · exact h.en (by omega))
    (fun s x hs k k2 ih r hr => by
      rcases List.mem_append.1 hr with hr | hr
      · obtain ⟨a, b, e, h⟩ := ih r hr
        refine ⟨a, b, e, h.lt, by have := h.le; omega, h.on, h.st, fun hb => ?_⟩
        rcases Nat.lt_or_ge b s with c | c
        · exact h.en c
        · have hle := h.le
          have hlt := h.lt
          have e2 := h.on (b - 1) (by omega) (by omega)
          rcases k with k | k
          · omega
          · rw [show s - 1 = b - 1 by omega, e2] at k; cases k
      · rw [List.mem_singleton] at hr
        exact ⟨s, x, hr, hs, Nat.le_refl _, k2, k, fun h => by omega⟩)
theorem rl_in9 {f : Nat → Bool} : ∀ x i, inR (rl f x) i = (decide (i < x) && f i) :=
  rl_ind9 (M := fun x l => ∀ i, inR l i = (decide (i < x) && f i)) (fun i => by simp [inR])
    (fun x k ih i => by
      rw [ih]
      by_cases e : i = x
      · subst e; simp [k]
      · rw [show decide (i < x + 1) = decide (i < x) from decide_eq_decide.2 (by omega)])
    (fun s x hs k k2 ih i => by
      rw [inR_snoc, ih]
      by_cases a : i < s
      · rw [decide_eq_true a, decide_eq_true (show i < x by omega), decide_eq_false (by dsimp only; omega), Bool.or_false]
      · by_cases b : i < x
        · rw [decide_eq_true b, k2 i (by omega) b, decide_eq_true (show ((s : Int), (x : Int)).1 ≤ (i : Int) ∧ (i : Int) < ((s : Int), (x : Int)).2 by dsimp only; omega)]; simp
        · rw [decide_eq_false a, decide_eq_false b, decide_eq_false (by dsimp only; omega)]; rfl)
theorem rl_apart {f : Nat → Bool} : ∀ x, apartR (rl f x) :=
  rl_ind9 (M := fun _ l => apartR l) (fun c d u v _ h => by cases h) (fun x _ ih => ih) (fun s x hs st on ih c d u v hcd hc hd => by
    rcases Nat.lt_or_ge d (rl f s).length with q | q
    · rw [List.getElem?_append_left (by omega)] at hc
      rw [List.getElem?_append_left q] at hd
      exact ih c d u v hcd hc hd
    · rw [List.getElem?_append_right q] at hd
      have hd0 : d - (rl f s).length = 0 := by
        cases e : d - (rl f s).length with
        | zero => rfl
        | succ n => rw [e] at hd; cases hd
      rw [hd0] at hd; cases hd
      rw [List.getElem?_append_left (by omega)] at hc
      obtain ⟨a, b, rfl, ok⟩ := rl_ok9 f s u (List.mem_of_getElem? hc)
      have h1 := ok.lt
      have h2 := ok.le
      rcases st with rfl | st
      · omega
      · dsimp only
        by_cases e : b = s
        · subst e
          have := ok.on (b - 1) (by omega) (by omega)
          rw [st] at this; cases this
        · omega)
end Go.Ab
