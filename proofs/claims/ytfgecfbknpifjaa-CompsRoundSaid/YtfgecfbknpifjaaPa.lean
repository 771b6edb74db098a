/- Which runs have one root: those that are connected by pairs that were put together. Conditions: none. -/
import Derived.Test.YtfgecfbknpifjaaTb
set_option linter.all false
namespace Go.Ab
/-- What stands for each behind a list of pairs put together. -/
def jns (ρ : Nat → Nat) (J : List (Nat × Nat)) : Nat → Nat := J.foldl (fun ρ x => jn ρ x.1 x.2) ρ
/-- Connected. -/
inductive Con (J : List (Nat × Nat)) : Nat → Nat → Prop
  | refl (i : Nat) : Con J i i
  | step {i k l : Nat} : Con J i k → ((k, l) ∈ J ∨ (l, k) ∈ J) → Con J i l
theorem Con.trans {J : List (Nat × Nat)} {i k l : Nat} (h : Con J i k) (h' : Con J k l) : Con J i l := by
  induction h' with
  | refl => exact h
  | step _ e ih => exact ih.step e
theorem Con.one {J : List (Nat × Nat)} {i k : Nat} (h : (i, k) ∈ J ∨ (k, i) ∈ J) : Con J i k := (Con.refl i).step h
theorem Con.symm {J : List (Nat × Nat)} {i k : Nat} (h : Con J i k) : Con J k i := by
  induction h with
  | refl => exact .refl _
  | step _ e ih => exact (Con.one e.symm).trans ih
theorem Con.mono {J J' : List (Nat × Nat)} (hs : ∀ x ∈ J, x ∈ J') {i k : Nat} (h : Con J i k) : Con J' i k := by
  induction h with
  | refl => exact .refl _
  | step _ e ih => exact ih.step (e.imp (hs _) (hs _))
theorem jn_eq {ρ : Nat → Nat} {a b i k : Nat} : jn ρ a b i = jn ρ a b k ↔ ρ i = ρ k ∨ (ρ i = ρ a ∧ ρ k = ρ b) ∨ (ρ i = ρ b ∧ ρ k = ρ a) := by
  unfold jn
  generalize ρ i = x
  generalize ρ k = y
  generalize ρ a = u
  generalize ρ b = v
  by_cases h1 : x = max u v
  · by_cases h2 : y = max u v
    · rw [if_pos h1, if_pos h2]; omega
    · rw [if_pos h1, if_neg h2]; omega
  · by_cases h2 : y = max u v
    · rw [if_neg h1, if_pos h2]; omega
    · rw [if_neg h1, if_neg h2]; omega
/-- **One root: connected.** -/
theorem jns_con : ∀ (J : List (Nat × Nat)) (i k : Nat), jns (fun i => i) J i = jns (fun i => i) J k ↔ Con J i k := by
  intro J
  have key : ∀ (J' : List (Nat × Nat)) (J0 : List (Nat × Nat)) (ρ : Nat → Nat), (∀ i k, ρ i = ρ k ↔ Con J0 i k) → ∀ i k, jns ρ J' i = jns ρ J' k ↔ Con (J0 ++ J') i k := by
    intro J'
    induction J' with
    | nil => intro J0 ρ h i k; rw [List.append_nil]; exact h i k
    | cons x J' ih =>
      intro J0 ρ h i k
      have e : jns ρ (x :: J') = jns (jn ρ x.1 x.2) J' := rfl
      rw [e, show J0 ++ x :: J' = (J0 ++ [x]) ++ J' by simp]
      refine ih (J0 ++ [x]) _ (fun i k => ?_) i k
      rw [jn_eq]
      have up : ∀ {i k}, Con J0 i k → Con (J0 ++ [x]) i k := fun h => h.mono fun y hy => List.mem_append_left _ hy
      have hx : (x.1, x.2) ∈ J0 ++ [x] := by simp
      constructor
      · rintro (h1 | ⟨h1, h2⟩ | ⟨h1, h2⟩)
        · exact up ((h i k).1 h1)
        · exact (up ((h i _).1 h1)).trans ((Con.one (.inl hx)).trans (up ((h _ k).1 h2.symm)))
        · exact (up ((h i _).1 h1)).trans ((Con.one (.inr hx)).trans (up ((h _ k).1 h2.symm)))
      · intro hc
        induction hc with
        | refl => exact .inl rfl
        | @step k l _ e2 ih2 =>
          have old : (k, l) ∈ J0 ∨ (l, k) ∈ J0 → ρ k = ρ l := fun q => (h k l).2 (Con.one q)
          have cases_ : ((k, l) ∈ J0 ∨ (l, k) ∈ J0) ∨ (k, l) = x ∨ (l, k) = x := by
            rcases e2 with e2 | e2 <;> rcases List.mem_append.1 e2 with e2 | e2
            · exact .inl (.inl e2)
            · exact .inr (.inl (by simpa using e2))
            · exact .inl (.inr e2)
            · exact .inr (.inr (by simpa using e2))
          rcases cases_ with q | q | q
          · have := old q; omega
          · subst q; dsimp only at ih2 ⊢; omega
          · subst q; dsimp only at ih2 ⊢; omega
  exact key J [] (fun i => i) (fun i k => ⟨fun h => h ▸ .refl i, fun h => by
    induction h with
    | refl => rfl
    | step _ e _ => rcases e with e | e <;> cases e⟩)
/-! ### The pairs that the walk over two rows meets -/
def tchJ (A B : List (Int × Int)) (i k : Nat) : Nat → Nat → Nat → List (Nat × Nat)
  | 0, _, _ => []
  | n + 1, a, b => match A[a]?, B[b]? with
    | some u, some v => (if touchP u v then [(i + a, k + b)] else []) ++ (if u.2 ≤ v.2 then tchJ A B i k n (a + 1) b else tchJ A B i k n a (b + 1))
    | _, _ => []
theorem tchF_jns (A B : List (Int × Int)) (i k : Nat) : ∀ (n a b : Nat) (ρ : Nat → Nat), tchF A B i k n a b ρ = jns ρ (tchJ A B i k n a b)
  | 0, _, _, _ => rfl
  | n + 1, a, b, ρ => by
    unfold tchF tchJ
    cases A[a]? with
    | none => rfl
    | some u => cases B[b]? with
      | none => rfl
      | some v =>
        dsimp only
        by_cases t : touchP u v <;> by_cases l : u.2 ≤ v.2 <;> simp only [t, l, if_true, if_false] <;> rw [tchF_jns A B i k n] <;> rfl
theorem tchJ_in {A B : List (Int × Int)} {i k : Nat} : ∀ (n a b : Nat) (x : Nat × Nat), x ∈ tchJ A B i k n a b → ∃ (c d : Nat) (u v : Int × Int), A[c]? = some u ∧ B[d]? = some v ∧ touchP u v ∧ x = (i + c, k + d)
  | 0, _, _, x, h => by simp [tchJ] at h
  | n + 1, a, b, x, h => by
    unfold tchJ at h
    cases hA : A[a]? with
    | none => rw [hA] at h; simp at h
    | some u => cases hB : B[b]? with
      | none => rw [hA, hB] at h; simp at h
      | some v =>
        rw [hA, hB] at h
        dsimp only at h
        rcases List.mem_append.1 h with h | h
        · split at h
          · rename_i t; simp at h; exact ⟨a, b, u, v, hA, hB, t, h⟩
          · simp at h
        · split at h
          · exact tchJ_in n _ _ x h
          · exact tchJ_in n _ _ x h
/-- Runs of a row lie apart. -/
def apartR (A : List (Int × Int)) : Prop := ∀ (c d : Nat) (u v : Int × Int), c < d → A[c]? = some u → A[d]? = some v → u.2 < v.1
theorem tchJ_all {A B : List (Int × Int)} {i k : Nat} (hA : apartR A) (hB : apartR B) {c d : Nat} {u v : Int × Int} (eA : A[c]? = some u) (eB : B[d]? = some v) (t : touchP u v) :
    ∀ (n a b : Nat), a ≤ c → b ≤ d → c + d < n + a + b → (i + c, k + d) ∈ tchJ A B i k n a b
  | 0, a, b, h1, h2, h3 => by omega
  | n + 1, a, b, h1, h2, h3 => by
    have ha : a < A.length := by have := (List.getElem?_eq_some_iff.1 eA).1; omega
    have hb : b < B.length := by have := (List.getElem?_eq_some_iff.1 eB).1; omega
    obtain ⟨u0, e0⟩ : ∃ u0, A[a]? = some u0 := ⟨_, List.getElem?_eq_getElem ha⟩
    obtain ⟨v0, f0⟩ : ∃ v0, B[b]? = some v0 := ⟨_, List.getElem?_eq_getElem hb⟩
    unfold tchJ
    rw [e0, f0]
    dsimp only
    obtain ⟨t1, t2, t3, t4⟩ := t
    by_cases q : a = c ∧ b = d
    · obtain ⟨rfl, rfl⟩ := q
      rw [eA] at e0; rw [eB] at f0; cases e0; cases f0
      rw [if_pos ⟨t1, t2, t3, t4⟩]; simp
    · refine List.mem_append_right _ ?_
      by_cases l : u0.2 ≤ v0.2
      · rw [if_pos l]
        refine tchJ_all hA hB eA eB ⟨t1, t2, t3, t4⟩ n (a + 1) b ?_ h2 (by omega)
        rcases Nat.lt_or_ge a c with z | z
        · exact z
        · have ac : a = c := by omega
          subst ac
          have bd : b < d := by omega
          rw [eA] at e0; cases e0
          have := hB b d v0 v bd f0 eB
          omega
      · rw [if_neg l]
        refine tchJ_all hA hB eA eB ⟨t1, t2, t3, t4⟩ n a (b + 1) h1 ?_ (by omega)
        rcases Nat.lt_or_ge b d with z | z
        · exact z
        · have bd : b = d := by omega
          subst bd
          have ac : a < c := by omega
          rw [eB] at f0; cases f0
          have := hA a c u0 u ac e0 eA
          omega
end Go.Ab
