/- Pixels connected: their runs connected. Conditions: none. -/
import Derived.Test.YtfgecfbknpifjaaPc
set_option linter.all false
namespace Go.Ab
/-- A black pixel within the bitmap. -/
def blk_ (p : Nat → Nat → Bool) (w h x y : Nat) : Prop := x < w ∧ y < h ∧ p x y = true
/-- Neighbours. -/
def nb (x y x' y' : Nat) : Prop := x ≤ x' + 1 ∧ x' ≤ x + 1 ∧ y ≤ y' + 1 ∧ y' ≤ y + 1
inductive ConX (p : Nat → Nat → Bool) (w h x y : Nat) : Nat → Nat → Prop
  | refl : ConX p w h x y x y
  | step {x1 y1 x2 y2 : Nat} : ConX p w h x y x1 y1 → blk_ p w h x2 y2 → nb x1 y1 x2 y2 → ConX p w h x y x2 y2
/-- The pixel lies in the run. -/
def inRun (PL : List Plc) (i x y : Nat) : Prop := ∃ u : Int × Int, PL[i]? = some (u, y) ∧ u.1 ≤ (x : Int) ∧ (x : Int) < u.2
variable {p : Nat → Nat → Bool} {w h : Nat}
theorem rows_apart (y : Nat) : apartR ((rowsOf p w h).getD y []) := by
  by_cases hy : y < h
  · rw [rowsOf_getD hy]; exact rl_apart w
  · have : (rowsOf p w h).getD y [] = [] := by
      rw [List.getD_eq_getElem?_getD, List.getElem?_eq_none (by rw [rowsOf_len]; omega)]; rfl
    rw [this]
    intro c d u v _ h; cases h
theorem run_of {x y : Nat} (hb : blk_ p w h x y) : ∃ i, inRun (allPl (rowsOf p w h) h) i x y := by
  obtain ⟨h1, h2, h3⟩ := hb
  have e := rl_in9 (f := fun x => p x y) w x
  rw [decide_eq_true h1, h3] at e
  simp only [Bool.and_self, inR, List.any_eq_true, decide_eq_true_eq] at e
  obtain ⟨u, hu, k1, k2⟩ := e
  obtain ⟨c, hc⟩ := List.getElem?_of_mem hu
  exact ⟨_, u, pl_at h2 (by rw [rowsOf_getD h2]; exact hc), k1, k2⟩
theorem run_blk {i x y : Nat} (hr : inRun (allPl (rowsOf p w h) h) i x y) : blk_ p w h x y := by
  obtain ⟨u, e, k1, k2⟩ := hr
  obtain ⟨h1, c, _, hc⟩ := pl_of e
  dsimp only at h1 hc
  rw [rowsOf_getD h1] at hc
  have hm := List.mem_of_getElem? hc
  have hi := rl_in9 (f := fun x => p x y) w x
  have : inR (rl (fun x => p x y) w) x = true := by
    simp only [inR, List.any_eq_true, decide_eq_true_eq]
    exact ⟨u, hm, k1, k2⟩
  rw [this] at hi
  have := hi.symm
  simp only [Bool.and_eq_true, decide_eq_true_eq] at this
  exact ⟨this.1, h1, this.2⟩
/-- Neighbours lie in one run, or in runs that touch. -/
theorem nb_adj {i k x y x' y' : Nat} (h1 : inRun (allPl (rowsOf p w h) h) i x y) (h2 : inRun (allPl (rowsOf p w h) h) k x' y') (hn : nb x y x' y') : i = k ∨ AdjP (allPl (rowsOf p w h) h) i k ∨ AdjP (allPl (rowsOf p w h) h) k i := by
  obtain ⟨u, e1, a1, a2⟩ := h1
  obtain ⟨v, e2, b1, b2⟩ := h2
  obtain ⟨n1, n2, n3, n4⟩ := hn
  by_cases c1 : y' = y + 1
  · subst c1
    exact .inr (.inl ⟨u, v, y, e1, e2, by unfold touchP; omega⟩)
  by_cases c2 : y = y' + 1
  · subst c2
    exact .inr (.inr ⟨v, u, y', e2, e1, by unfold touchP; omega⟩)
  have c3 : y = y' := by omega
  subst c3
  obtain ⟨_, c, rfl, f1⟩ := pl_of e1
  obtain ⟨_, d, rfl, f2⟩ := pl_of e2
  dsimp only at f1 f2 ⊢
  rcases Nat.lt_trichotomy c d with q | q | q
  · have := rows_apart (p := p) (w := w) (h := h) y c d u v q f1 f2
    omega
  · subst q; exact .inl rfl
  · have := rows_apart (p := p) (w := w) (h := h) y d c v u q f2 f1
    omega
theorem ConP.cat {PL : List Plc} {i k l : Nat} (h : ConP PL i k) (h' : ConP PL k l) : ConP PL i l := by
  induction h' with
  | refl => exact h
  | step _ q ih => exact ih.step q
theorem con_px {i x y : Nat} (h1 : inRun (allPl (rowsOf p w h) h) i x y) {x' y' : Nat} (hc : ConX p w h x y x' y') : ∀ k, inRun (allPl (rowsOf p w h) h) k x' y' → ConP (allPl (rowsOf p w h) h) i k := by
  induction hc with
  | refl =>
    intro k h2
    rcases nb_adj h1 h2 ⟨by omega, by omega, by omega, by omega⟩ with rfl | q
    · exact .refl
    · exact ConP.refl.step q
  | @step x1 y1 x2 y2 hc hb hn ih =>
    intro k h2
    obtain ⟨j, hj⟩ : ∃ j, inRun (allPl (rowsOf p w h) h) j x1 y1 := by
      cases hc with
      | refl => exact ⟨i, h1⟩
      | step _ hb' _ => exact run_of hb'
    rcases nb_adj hj h2 hn with rfl | q
    · exact ih j hj
    · exact (ih j hj).step q
theorem ConX.cat {x y x1 y1 x2 y2 : Nat} (h1 : ConX p w h x y x1 y1) (h2 : ConX p w h x1 y1 x2 y2) : ConX p w h x y x2 y2 := by
  induction h2 with
  | refl => exact h1
  | step _ hb hn ih => exact ih.step hb hn
/-- Along a run. -/
theorem run_con {i x y : Nat} (h1 : inRun (allPl (rowsOf p w h) h) i x y) : ∀ (n x' : Nat), x' = x + n ∨ x = x' + n → inRun (allPl (rowsOf p w h) h) i x' y → ConX p w h x y x' y
  | 0, x', e, _ => by have : x' = x := by omega
                      subst this; exact .refl
  | n + 1, x', e, h2 => by
    obtain ⟨u, e1, a1, a2⟩ := h1
    obtain ⟨v, e2, b1, b2⟩ := h2
    rw [e1] at e2; cases e2
    rcases e with e | e
    · have ih := run_con ⟨u, e1, a1, a2⟩ n (x + n) (.inl rfl) ⟨u, e1, by omega, by omega⟩
      exact ih.step (run_blk ⟨u, e1, b1, b2⟩) ⟨by omega, by omega, by omega, by omega⟩
    · have ih := run_con ⟨u, e1, a1, a2⟩ n (x' + 1) (.inr (by omega)) ⟨u, e1, by omega, by omega⟩
      exact ih.step (run_blk ⟨u, e1, b1, b2⟩) ⟨by omega, by omega, by omega, by omega⟩
theorem adj_con {i k x y x' y' : Nat} (h1 : inRun (allPl (rowsOf p w h) h) i x y) (h2 : inRun (allPl (rowsOf p w h) h) k x' y') (ha : AdjP (allPl (rowsOf p w h) h) i k ∨ AdjP (allPl (rowsOf p w h) h) k i) : ConX p w h x y x' y' := by
  obtain ⟨u, e1, a1, a2⟩ := h1
  obtain ⟨v, e2, b1, b2⟩ := h2
  have near : ∀ (u v : Int × Int), touchP u v → 0 ≤ u.1 → 0 ≤ v.1 → ∃ s t : Nat, u.1 ≤ (s : Int) ∧ (s : Int) < u.2 ∧ v.1 ≤ (t : Int) ∧ (t : Int) < v.2 ∧ s ≤ t + 1 ∧ t ≤ s + 1 := fun u v ⟨t1, t2, t3, t4⟩ p1 p2 => by
    rcases Int.lt_or_le u.1 v.1 with q | q
    · by_cases z : v.1 < u.2
      · exact ⟨v.1.toNat, v.1.toNat, by omega, by omega, by omega, by omega, by omega, by omega⟩
      · exact ⟨(u.2 - 1).toNat, v.1.toNat, by omega, by omega, by omega, by omega, by omega, by omega⟩
    · by_cases z : u.1 < v.2
      · exact ⟨u.1.toNat, u.1.toNat, by omega, by omega, by omega, by omega, by omega, by omega⟩
      · exact ⟨u.1.toNat, (v.2 - 1).toNat, by omega, by omega, by omega, by omega, by omega, by omega⟩
  have pos : ∀ {i : Nat} {u : Int × Int} {y : Nat}, (allPl (rowsOf p w h) h)[i]? = some (u, y) → 0 ≤ u.1 := fun e => (pl_ok _ (List.mem_of_getElem? e)).1
  have go : ∀ {s t : Nat}, u.1 ≤ (s : Int) → (s : Int) < u.2 → v.1 ≤ (t : Int) → (t : Int) < v.2 → nb s y t y' → ConX p w h x y x' y' := fun {s t} g1 g2 g3 g4 hn => by
    have c1 := run_con ⟨u, e1, a1, a2⟩ (if x ≤ s then s - x else x - s) s (by split <;> omega) ⟨u, e1, g1, g2⟩
    have c2 := run_con ⟨v, e2, g3, g4⟩ (if t ≤ x' then x' - t else t - x') x' (by split <;> omega) ⟨v, e2, b1, b2⟩
    exact (c1.step (run_blk ⟨v, e2, g3, g4⟩) hn).cat c2
  rcases ha with ⟨u', v', z, f1, f2, t⟩ | ⟨u', v', z, f1, f2, t⟩
  · rw [e1] at f1; rw [e2] at f2; cases f1; cases f2
    obtain ⟨s, t, g1, g2, g3, g4, g5, g6⟩ := near u v t (pos e1) (pos e2)
    exact go g1 g2 g3 g4 ⟨g5, g6, by omega, by omega⟩
  · rw [e2] at f1; rw [e1] at f2; cases f1; cases f2
    obtain ⟨s, t, g1, g2, g3, g4, g5, g6⟩ := near v u t (pos e2) (pos e1)
    exact go g3 g4 g1 g2 ⟨g6, g5, by omega, by omega⟩
theorem con_run {i x y : Nat} (h1 : inRun (allPl (rowsOf p w h) h) i x y) {k : Nat} (hc : ConP (allPl (rowsOf p w h) h) i k) : ∀ x' y', inRun (allPl (rowsOf p w h) h) k x' y' → ConX p w h x y x' y' := by
  induction hc with
  | refl =>
    intro x' y' h2
    have : y' = y := by obtain ⟨u, e1, _⟩ := h1; obtain ⟨v, e2, _⟩ := h2; rw [e1] at e2; cases e2; rfl
    subst this
    exact run_con h1 (if x ≤ x' then x' - x else x - x') x' (by split <;> omega) h2
  | @step k l _ ha ih =>
    intro x' y' h2
    obtain ⟨s, t, hk⟩ : ∃ s t, inRun (allPl (rowsOf p w h) h) k s t := by
      have : ∃ u y, (allPl (rowsOf p w h) h)[k]? = some (u, y) := by
        rcases ha with ⟨u', v', z, f1, f2, _⟩ | ⟨u', v', z, f1, f2, _⟩
        · exact ⟨_, _, f1⟩
        · exact ⟨_, _, f2⟩
      obtain ⟨u, y, e⟩ := this
      obtain ⟨q1, q2, q3, q4⟩ := pl_ok _ (List.mem_of_getElem? e)
      dsimp only at q1 q2
      exact ⟨u.1.toNat, y, u, e, by omega, by omega⟩
    exact (ih s t hk).cat (adj_con hk h2 ha)
/-- **One root: connected pixels.** -/
theorem rho_px {i k x y x' y' : Nat} (h1 : inRun (allPl (rowsOf p w h) h) i x y) (h2 : inRun (allPl (rowsOf p w h) h) k x' y') : rhoF (rowsOf p w h) h i = rhoF (rowsOf p w h) h k ↔ ConX p w h x y x' y' := by
  rw [rho_con rows_apart]
  exact ⟨fun h => con_run h1 h x' y' h2, fun h => con_px h1 h k h2⟩
end Go.Ab
