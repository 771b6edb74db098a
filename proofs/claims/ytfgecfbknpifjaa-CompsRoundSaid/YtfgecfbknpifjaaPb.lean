/- Placed runs have one root: connected by touching runs of neighbouring rows. Conditions: none. -/
import Derived.Test.YtfgecfbknpifjaaPa
import Derived.Test.YtfgecfbknpifjaaTj
set_option linter.all false
namespace Go.Ab
variable {rows : List (List (Int × Int))}
theorem pl_at : ∀ {n y c : Nat} {u : Int × Int}, y < n → (rows.getD y [])[c]? = some u → (allPl rows n)[(allPl rows y).length + c]? = some (u, y)
  | n + 1, y, c, u, hy, hc => by
    rw [allPl]
    by_cases e : y = n
    · subst e
      rw [List.getElem?_append_right (by omega), Nat.add_sub_cancel_left, plRow, List.getElem?_map, hc]; rfl
    · have hlt : c < (rows.getD y []).length := (List.getElem?_eq_some_iff.1 hc).1
      have h2 := allPl_mono rows (show y + 1 ≤ n by omega)
      rw [allPl_succ] at h2
      rw [List.getElem?_append_left (by omega)]
      exact pl_at (by omega) hc
theorem pl_of : ∀ {n i : Nat} {q : Plc}, (allPl rows n)[i]? = some q → q.2 < n ∧ ∃ c, i = (allPl rows q.2).length + c ∧ (rows.getD q.2 [])[c]? = some q.1
  | 0, i, q, h => by simp [allPl] at h
  | n + 1, i, q, h => by
    rw [allPl] at h
    rcases Nat.lt_or_ge i (allPl rows n).length with hi | hi
    · rw [List.getElem?_append_left hi] at h
      obtain ⟨h1, h2⟩ := pl_of h
      exact ⟨by omega, h2⟩
    · rw [List.getElem?_append_right hi, plRow, List.getElem?_map] at h
      obtain ⟨u, h1, rfl⟩ := Option.map_eq_some_iff.1 h
      exact ⟨by dsimp only; omega, i - (allPl rows n).length, by dsimp only; omega, h1⟩
/-- All pairs that are put together. -/
def JR (rows : List (List (Int × Int))) : Nat → List (Nat × Nat)
  | 0 => []
  | y + 1 => JR rows y ++ (if 0 < y then tchJ (rows.getD (y - 1) []) (rows.getD y []) ((allPl rows y).length - (rows.getD (y - 1) []).length) (allPl rows y).length ((rows.getD (y - 1) []).length + (rows.getD y []).length) 0 0 else [])
theorem rho_jns : ∀ y, rhoF rows y = jns (fun i => i) (JR rows y)
  | 0 => rfl
  | y + 1 => by
    rw [rhoF, JR]
    by_cases h : 0 < y
    · rw [if_pos h, if_pos h]
      unfold tch
      rw [tchF_jns, rho_jns y]
      simp [jns]
    · rw [if_neg h, if_neg h, List.append_nil, rho_jns y]
/-- Runs of neighbouring rows that touch. -/
def AdjP (PL : List Plc) (i k : Nat) : Prop := ∃ (u v : Int × Int) (y : Nat), PL[i]? = some (u, y) ∧ PL[k]? = some (v, y + 1) ∧ touchP u v
theorem jr_in {n : Nat} (hap : ∀ y, apartR (rows.getD y [])) : ∀ (y : Nat), y ≤ n → ∀ i k, (i, k) ∈ JR rows y ↔ ∃ (u v : Int × Int) (z : Nat), z + 1 < y ∧ (allPl rows n)[i]? = some (u, z) ∧ (allPl rows n)[k]? = some (v, z + 1) ∧ touchP u v
  | 0, _, i, k => by simp [JR]
  | y + 1, hy, i, k => by
    have ih := jr_in (n := n) hap y (by omega) i k
    rw [JR, List.mem_append, ih]
    by_cases h : 0 < y
    · rw [if_pos h]
      have hoff : (allPl rows y).length = (allPl rows (y - 1)).length + (rows.getD (y - 1) []).length := by
        have := allPl_succ rows (y - 1)
        rwa [show y - 1 + 1 = y by omega] at this
      constructor
      · rintro (⟨u, v, z, h1, h2⟩ | hm)
        · exact ⟨u, v, z, by omega, h2⟩
        · obtain ⟨c, d, u, v, e1, e2, t, e⟩ := tchJ_in _ _ _ _ hm
          cases e
          refine ⟨u, v, y - 1, by omega, ?_, ?_, t⟩
          · rw [show (allPl rows y).length - (rows.getD (y - 1) []).length = (allPl rows (y - 1)).length by omega]
            exact pl_at (by omega) e1
          · rw [show y - 1 + 1 = y by omega]
            exact pl_at (by omega) e2
      · rintro ⟨u, v, z, h1, h2, h3, t⟩
        by_cases hz : z + 1 < y
        · exact .inl ⟨u, v, z, hz, h2, h3, t⟩
        · have : z = y - 1 := by omega
          subst this
          obtain ⟨_, c, rfl, e1⟩ := pl_of h2
          obtain ⟨_, d, rfl, e2⟩ := pl_of h3
          dsimp only at e1 e2 ⊢
          rw [show y - 1 + 1 = y by omega] at e2 ⊢
          refine .inr ?_
          have h4 : c < (rows.getD (y - 1) []).length := (List.getElem?_eq_some_iff.1 e1).1
          have h5 : d < (rows.getD y []).length := (List.getElem?_eq_some_iff.1 e2).1
          have := tchJ_all (i := (allPl rows y).length - (rows.getD (y - 1) []).length) (k := (allPl rows y).length) (hap (y - 1)) (hap y) e1 e2 t ((rows.getD (y - 1) []).length + (rows.getD y []).length) 0 0 (by omega) (by omega) (by omega)
          rw [show (allPl rows y).length - (rows.getD (y - 1) []).length = (allPl rows (y - 1)).length by omega] at this ⊢
          exact this
    · rw [if_neg h]
      constructor
      · rintro (⟨u, v, z, h1, h2⟩ | hm)
        · omega
        · cases hm
      · rintro ⟨u, v, z, h1, h2, h3, t⟩; omega
/-- Connected by touching runs. -/
inductive ConP (PL : List Plc) (i : Nat) : Nat → Prop
  | refl : ConP PL i i
  | step {k l : Nat} : ConP PL i k → (AdjP PL k l ∨ AdjP PL l k) → ConP PL i l
/-- **One root: connected by touching runs.** -/
theorem rho_con (hap : ∀ y, apartR (rows.getD y [])) (n i k : Nat) : rhoF rows n i = rhoF rows n k ↔ ConP (allPl rows n) i k := by
  rw [rho_jns, jns_con]
  have e : ∀ i k, (i, k) ∈ JR rows n ↔ AdjP (allPl rows n) i k := fun i k => by
    rw [jr_in hap n (Nat.le_refl _)]
    constructor
    · rintro ⟨u, v, z, _, h⟩; exact ⟨u, v, z, h⟩
    · rintro ⟨u, v, z, h1, h2, h3⟩
      exact ⟨u, v, z, (pl_of h2).1, h1, h2, h3⟩
  constructor
  · intro h
    induction h with
    | refl => exact .refl
    | step _ q ih => exact ih.step (q.imp (e _ _).1 (e _ _).1)
  · intro h
    induction h with
    | refl => exact .refl _
    | step _ q ih => exact ih.step (q.imp (e _ _).2 (e _ _).2)
end Go.Ab
