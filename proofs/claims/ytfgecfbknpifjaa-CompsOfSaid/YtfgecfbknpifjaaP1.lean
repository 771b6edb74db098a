/- Which runs have one root: those that are connected by pairs that were put together. Conditions: none. -/
import Derived.Test.YtfgecfbknpifjaaT1
import Derived.Test.YtfgecfbknpifjaaC4
set_option linter.all false
namespace Go.Ab
/-- What stands for each behind a list of pairs put together. -/
def jns (ρ : Nat → Nat) (J : List (Nat × Nat)) : Nat → Nat := J.foldl (fun ρ x => jn ρ x.1 x.2) ρ
/-- Connected. -/
inductive Con (J : List (Nat × Nat)) : Nat → Nat → Prop
  | refl (i : Nat) : Con J i i
  | step {i k l : Nat} : Con J i k → ((k, l) ∈ J ∨ (l, k) ∈ J) → Con J i l
theorem Con.trans {J : List (Nat × Nat)} {i k l : Nat} (h : Con J i k) (h' : Con J k l) : Con J i l := by
  induction h' with
  | refl => exact h
  | step _ e ih => exact ih.step e
theorem Con.one {J : List (Nat × Nat)} {i k : Nat} (h : (i, k) ∈ J ∨ (k, i) ∈ J) : Con J i k := (Con.refl i).step h
theorem Con.symm {J : List (Nat × Nat)} {i k : Nat} (h : Con J i k) : Con J k i := by
  induction h with
  | refl => exact .refl _
  | step _ e ih => exact (Con.one e.symm).trans ih
theorem Con.mono {J J' : List (Nat × Nat)} (hs : ∀ x ∈ J, x ∈ J') {i k : Nat} (h : Con J i k) : Con J' i k := by
  induction h with
  | refl => exact .refl _
  | step _ e ih => exact ih.step (e.imp (hs _) (hs _))
theorem jn_eq {ρ : Nat → Nat} {a b i k : Nat} : jn ρ a b i = jn ρ a b k ↔ ρ i = ρ k ∨ (ρ i = ρ a ∧ ρ k = ρ b) ∨ (ρ i = ρ b ∧ ρ k = ρ a) := by
  unfold jn
  generalize ρ i = x
  generalize ρ k = y
  generalize ρ a = u
  generalize ρ b = v
  by_cases h1 : x = max u v
  · by_cases h2 : y = max u v
    · rw [if_pos h1, if_pos h2]; omega
    · rw [if_pos h1, if_neg h2]; omega
  · by_cases h2 : y = max u v
    · rw [if_neg h1, if_pos h2]; omega
    · rw [if_neg h1, if_neg h2]; omega
/-- **One root: connected.** -/
theorem jns_con : ∀ (J : List (Nat × Nat)) (i k : Nat), jns (fun i => i) J i = jns (fun i => i) J k ↔ Con J i k := by
  intro J
  have key : ∀ (J' : List (Nat × Nat)) (J0 : List (Nat × Nat)) (ρ : Nat → Nat), (∀ i k, ρ i = ρ k ↔ Con J0 i k) → ∀ i k, jns ρ J' i = jns ρ J' k ↔ Con (J0 ++ J') i k := by
    intro J'
    induction J' with
    | nil => intro J0 ρ h i k; rw [List.append_nil]; exact h i k
    | cons x J' ih =>
      intro J0 ρ h i k
      have e : jns ρ (x :: J') = jns (jn ρ x.1 x.2) J' := rfl
      rw [e, show J0 ++ x :: J' = (J0 ++ [x]) ++ J' by simp]
      refine ih (J0 ++ [x]) _ (fun i k => ?_) i k
      rw [jn_eq]
      have up : ∀ {i k}, Con J0 i k → Con (J0 ++ [x]) i k := fun h => h.mono fun y hy => List.mem_append_left _ hy
      have hx : (x.1, x.2) ∈ J0 ++ [x] := by simp
      constructor
      · rintro (h1 | ⟨h1, h2⟩ | ⟨h1, h2⟩)
        · exact up ((h i k).1 h1)
        · exact (up ((h i _).1 h1)).trans ((Con.one (.inl hx)).trans (up ((h _ k).1 h2.symm)))
        · exact (up ((h i _).1 h1)).trans ((Con.one (.inr hx)).trans (up ((h _ k).1 h2.symm)))
      · intro hc
        induction hc with
        | refl => exact .inl rfl
        | @step k l _ e2 ih2 =>
          have old : (k, l) ∈ J0 ∨ (l, k) ∈ J0 → ρ k = ρ l := fun q => (h k l).2 (Con.one q)
          have cases_ : ((k, l) ∈ J0 ∨ (l, k) ∈ J0) ∨ (k, l) = x ∨ (l, k) = x := by
            rcases e2 with e2 | e2 <;> rcases List.mem_append.1 e2 with e2 | e2
            · exact .inl (.inl e2)
            · exact .inr (.inl (by simpa using e2))
            · exact .inl (.inr e2)
            · exact .inr (.inr (by simpa using e2))
          rcases cases_ with q | q | q
          · have := old q; omega
          · subst q; dsimp only at ih2 ⊢; omega
          · subst q; dsimp only at ih2 ⊢; omega
  exact key J [] (fun i => i) (fun i k => ⟨fun h => h ▸ .refl i, fun h => by
    induction h with
    | refl => rfl
    | step _ e _ => rcases e with e | e <;> cases e⟩)
/-! ### The pairs that the walk over two rows meets -/
def tchJ (A B : List (Int × Int)) (i k : Nat) : Nat → Nat → Nat → List (Nat × Nat)
  | 0, _, _ => []
  | n + 1, a, b => match A[a]?, B[b]? with
    | some u, some v => (if touchP u v then [(i + a, k + b)] else []) ++ (if u.2 ≤ v.2 then tchJ A B i k n (a + 1) b else tchJ A B i k n a (b + 1))
    | _, _ => []
theorem tchF_jns (A B : List (Int × Int)) (i k : Nat) : ∀ (n a b : Nat) (ρ : Nat → Nat), tchF A B i k n a b ρ = jns ρ (tchJ A B i k n a b)
  | 0, _, _, _ => rfl
  | n + 1, a, b, ρ => by
    unfold tchF tchJ
    cases A[a]? with
    | none => rfl
    | some u => cases B[b]? with
      | none => rfl
      | some v =>
        dsimp only
        by_cases t : touchP u v <;> by_cases l : u.2 ≤ v.2 <;> simp only [t, l, if_true, if_false] <;> rw [tchF_jns A B i k n] <;> rfl
theorem tchJ_in {A B : List (Int × Int)} {i k : Nat} : ∀ (n a b : Nat) (x : Nat × Nat), x ∈ tchJ A B i k n a b → ∃ (c d : Nat) (u v : Int × Int), A[c]? = some u ∧ B[d]? = some v ∧ touchP u v ∧ x = (i + c, k + d)
  | 0, _, _, x, h => by simp [tchJ] at h
  | n + 1, a, b, x, h => by
    unfold tchJ at h
    cases hA : A[a]? with
    | none => rw [hA] at h; simp at h
    | some u => cases hB : B[b]? with
      | none => rw [hA, hB] at h; simp at h
      | some v =>
        rw [hA, hB] at h
        dsimp only at h
        rcases List.mem_append.1 h with h | h
        · split at h
          · rename_i t; simp at h; exact ⟨a, b, u, v, hA, hB, t, h⟩
          · simp at h
        · split at h
          · exact tchJ_in n _ _ x h
          · exact tchJ_in n _ _ x h
/-- Runs of a row lie apart. -/
def apartR (A : List (Int × Int)) : Prop := ∀ (c d : Nat) (u v : Int × Int), c < d → A[c]? = some u → A[d]? = some v → u.2 < v.1
theorem tchJ_all {A B : List (Int × Int)} {i k : Nat} (hA : apartR A) (hB : apartR B) {c d : Nat} {u v : Int × Int} (eA : A[c]? = some u) (eB : B[d]? = some v) (t : touchP u v) :
    ∀ (n a b : Nat), a ≤ c → b ≤ d → c + d < n + a + b → (i + c, k + d) ∈ tchJ A B i k n a b
  | 0, a, b, h1, h2, h3 => by omega
  | n + 1, a, b, h1, h2, h3 => by
    have ha : a < A.length := by have := (List.getElem?_eq_some_iff.1 eA).1; omega
    have hb : b < B.length := by have := (List.getElem?_eq_some_iff.1 eB).1; omega
    obtain ⟨u0, e0⟩ : ∃ u0, A[a]? = some u0 := ⟨_, List.getElem?_eq_getElem ha⟩
    obtain ⟨v0, f0⟩ : ∃ v0, B[b]? = some v0 := ⟨_, List.getElem?_eq_getElem hb⟩
    unfold tchJ
    rw [e0, f0]
    dsimp only
    obtain ⟨t1, t2, t3, t4⟩ := t
    by_cases q : a = c ∧ b = d
    · obtain ⟨rfl, rfl⟩ := q
      rw [eA] at e0; rw [eB] at f0; cases e0; cases f0
      rw [if_pos ⟨t1, t2, t3, t4⟩]; simp
    · refine List.mem_append_right _ ?_
      by_cases l : u0.2 ≤ v0.2
      · rw [if_pos l]
        refine tchJ_all hA hB eA eB ⟨t1, t2, t3, t4⟩ n (a + 1) b ?_ h2 (by omega)
        rcases Nat.lt_or_ge a c with z | z
        · exact z
        · have ac : a = c := by omega
          subst ac
          have bd : b < d := by omega
          rw [eA] at e0; cases e0
          have := hB b d v0 v bd f0 eB
          omega
      · rw [if_neg l]
        refine tchJ_all hA hB eA eB ⟨t1, t2, t3, t4⟩ n a (b + 1) h1 ?_ (by omega)
        rcases Nat.lt_or_ge b d with z | z
        · exact z
        · have bd : b = d := by omega
          subst bd
          have ac : a < c := by omega
          rw [eB] at f0; cases f0
          have := hA a c u0 u ac e0 eA
          omega
end Go.Ab
/- Placed runs have one root: connected by touching runs of neighbouring rows. Conditions: none. -/
namespace Go.Ab
variable {rows : List (List (Int × Int))}
theorem pl_at : ∀ {n y c : Nat} {u : Int × Int}, y < n → (rows.getD y [])[c]? = some u → (allPl rows n)[(allPl rows y).length + c]? = some (u, y)
  | n + 1, y, c, u, hy, hc => by
    rw [allPl]
    by_cases e : y = n
    · subst e
      rw [List.getElem?_append_right (by omega), Nat.add_sub_cancel_left, plRow, List.getElem?_map, hc]; rfl
    · have hlt : c < (rows.getD y []).length := (List.getElem?_eq_some_iff.1 hc).1
      have h2 := allPl_mono rows (show y + 1 ≤ n by omega)
      rw [allPl_succ] at h2
      rw [List.getElem?_append_left (by omega)]
      exact pl_at (by omega) hc
theorem pl_of : ∀ {n i : Nat} {q : Plc}, (allPl rows n)[i]? = some q → q.2 < n ∧ ∃ c, i = (allPl rows q.2).length + c ∧ (rows.getD q.2 [])[c]? = some q.1
  | 0, i, q, h => by simp [allPl] at h
  | n + 1, i, q, h => by
    rw [allPl] at h
    rcases Nat.lt_or_ge i (allPl rows n).length with hi | hi
    · rw [List.getElem?_append_left hi] at h
      obtain ⟨h1, h2⟩ := pl_of h
      exact ⟨by omega, h2⟩
    · rw [List.getElem?_append_right hi, plRow, List.getElem?_map] at h
      obtain ⟨u, h1, rfl⟩ := Option.map_eq_some_iff.1 h
      exact ⟨by dsimp only; omega, i - (allPl rows n).length, by dsimp only; omega, h1⟩
/-- All pairs that are put together. -/
def JR (rows : List (List (Int × Int))) : Nat → List (Nat × Nat)
  | 0 => []
  | y + 1 => JR rows y ++ (if 0 < y then tchJ (rows.getD (y - 1) []) (rows.getD y []) ((allPl rows y).length - (rows.getD (y - 1) []).length) (allPl rows y).length ((rows.getD (y - 1) []).length + (rows.getD y []).length) 0 0 else [])
theorem rho_jns : ∀ y, rhoF rows y = jns (fun i => i) (JR rows y)
  | 0 => rfl
  | y + 1 => by
    rw [rhoF, JR]
    by_cases h : 0 < y
    · rw [if_pos h, if_pos h]
      unfold tch
      rw [tchF_jns, rho_jns y]
      simp [jns]
    · rw [if_neg h, if_neg h, List.append_nil, rho_jns y]
/-- Runs of neighbouring rows that touch. -/
def AdjP (PL : List Plc) (i k : Nat) : Prop := ∃ (u v : Int × Int) (y : Nat), PL[i]? = some (u, y) ∧ PL[k]? = some (v, y + 1) ∧ touchP u v
theorem jr_in {n : Nat} (hap : ∀ y, apartR (rows.getD y [])) : ∀ (y : Nat), y ≤ n → ∀ i k, (i, k) ∈ JR rows y ↔ ∃ (u v : Int × Int) (z : Nat), z + 1 < y ∧ (allPl rows n)[i]? = some (u, z) ∧ (allPl rows n)[k]? = some (v, z + 1) ∧ touchP u v
  | 0, _, i, k => by simp [JR]
  | y + 1, hy, i, k => by
    have ih := jr_in (n := n) hap y (by omega) i k
    rw [JR, List.mem_append, ih]
    by_cases h : 0 < y
    · rw [if_pos h]
      have hoff : (allPl rows y).length = (allPl rows (y - 1)).length + (rows.getD (y - 1) []).length := by
        have := allPl_succ rows (y - 1)
        rwa [show y - 1 + 1 = y by omega] at this
      constructor
      · rintro (⟨u, v, z, h1, h2⟩ | hm)
        · exact ⟨u, v, z, by omega, h2⟩
        · obtain ⟨c, d, u, v, e1, e2, t, e⟩ := tchJ_in _ _ _ _ hm
          cases e
          refine ⟨u, v, y - 1, by omega, ?_, ?_, t⟩
          · rw [show (allPl rows y).length - (rows.getD (y - 1) []).length = (allPl rows (y - 1)).length by omega]
            exact pl_at (by omega) e1
          · rw [show y - 1 + 1 = y by omega]
            exact pl_at (by omega) e2
      · rintro ⟨u, v, z, h1, h2, h3, t⟩
        by_cases hz : z + 1 < y
        · exact .inl ⟨u, v, z, hz, h2, h3, t⟩
        · have : z = y - 1 := by omega
          subst this
          obtain ⟨_, c, rfl, e1⟩ := pl_of h2
          obtain ⟨_, d, rfl, e2⟩ := pl_of h3
          dsimp only at e1 e2 ⊢
          rw [show y - 1 + 1 = y by omega] at e2 ⊢
          refine .inr ?_
          have h4 : c < (rows.getD (y - 1) []).length := (List.getElem?_eq_some_iff.1 e1).1
          have h5 : d < (rows.getD y []).length := (List.getElem?_eq_some_iff.1 e2).1
          have := tchJ_all (i := (allPl rows y).length - (rows.getD (y - 1) []).length) (k := (allPl rows y).length) (hap (y - 1)) (hap y) e1 e2 t ((rows.getD (y - 1) []).length + (rows.getD y []).length) 0 0 (by omega) (by omega) (by omega)
          rw [show (allPl rows y).length - (rows.getD (y - 1) []).length = (allPl rows (y - 1)).length by omega] at this ⊢
          exact this
    · rw [if_neg h]
      constructor
      · rintro (⟨u, v, z, h1, h2⟩ | hm)
        · omega
        · cases hm
      · rintro ⟨u, v, z, h1, h2, h3, t⟩; omega
/-- Connected by touching runs. -/
inductive ConP (PL : List Plc) (i : Nat) : Nat → Prop
  | refl : ConP PL i i
  | step {k l : Nat} : ConP PL i k → (AdjP PL k l ∨ AdjP PL l k) → ConP PL i l
/-- **One root: connected by touching runs.** -/
theorem rho_con (hap : ∀ y, apartR (rows.getD y [])) (n i k : Nat) : rhoF rows n i = rhoF rows n k ↔ ConP (allPl rows n) i k := by
  rw [rho_jns, jns_con]
  have e : ∀ i k, (i, k) ∈ JR rows n ↔ AdjP (allPl rows n) i k := fun i k => by
    rw [jr_in hap n (Nat.le_refl _)]
    constructor
    · rintro ⟨u, v, z, _, h⟩; exact ⟨u, v, z, h⟩
    · rintro ⟨u, v, z, h1, h2, h3⟩
      exact ⟨u, v, z, (pl_of h2).1, h1, h2, h3⟩
  constructor
  · intro h
    induction h with
    | refl => exact .refl
    | step _ q ih => exact ih.step (q.imp (e _ _).1 (e _ _).1)
  · intro h
    induction h with
    | refl => exact .refl _
    | step _ q ih => exact ih.step (q.imp (e _ _).2 (e _ _).2)
end Go.Ab
/- Runs against pixels. Conditions: none. -/
namespace Go.Ab
theorem blkSt9 (f : Nat → Bool) : ∀ t, f t = true → ∃ s, s ≤ t ∧ (s = 0 ∨ f (s - 1) = false) ∧ ∀ z, s ≤ z → z ≤ t → f z = true
  | 0, h => ⟨0, Nat.le_refl _, Or.inl rfl, fun z _ hz => by rw [show z = 0 by omega]; exact h⟩
  | t + 1, h => by
    by_cases k : f t = true
    · obtain ⟨s, h1, h2, h3⟩ := blkSt9 f t k
      refine ⟨s, by omega, h2, fun z a b => ?_⟩
      by_cases e : z = t + 1
      · rw [e]; exact h
      · exact h3 z a (by omega)
    · exact ⟨t + 1, Nat.le_refl _, Or.inr (by simpa using k), fun z a b => by rw [show z = t + 1 by omega]; exact h⟩
theorem rl_ind9 {f : Nat → Bool} {M : Nat → List (Int × Int) → Prop} (h0 : M 0 []) (h1 : ∀ x, f x = false → M x (rl f x) → M (x + 1) (rl f x))
    (h2 : ∀ s x, s < x → (s = 0 ∨ f (s - 1) = false) → (∀ z, s ≤ z → z < x → f z = true) → M s (rl f s) → M x (rl f s ++ [((s : Int), (x : Int))])) : ∀ x, M x (rl f x) := fun x => by
  induction x using Nat.strongRecOn with
  | ind x ih =>
    cases x with
    | zero => exact h0
    | succ t =>
      by_cases k : f t = true
      · obtain ⟨s, a1, a2, a3⟩ := blkSt9 f t k
        rw [rl_run a2 (t + 1) (by omega) fun z a b => a3 z a (by omega)]
        exact h2 s (t + 1) (by omega) a2 (fun z a b => a3 z a (by omega)) (ih s (by omega))
      · have k : f t = false := by simpa using k
        have e : rl f (t + 1) = rl f t := rl_none (t + 1) (by omega) fun z a b => by rw [show z = t by omega]; exact k
        rw [e]
        exact h1 t k (ih t (by omega))
structure RunOk9 (f : Nat → Bool) (x a b : Nat) : Prop where
  lt : a < b
  le : b ≤ x
  on : ∀ z, a ≤ z → z < b → f z = true
  st : a = 0 ∨ f (a - 1) = false
  en : b < x → f b = false
theorem rl_ok9 (f : Nat → Bool) : ∀ x, ∀ r ∈ rl f x, ∃ a b : Nat, r = ((a : Int), (b : Int)) ∧ RunOk9 f x a b :=
  rl_ind9 (M := fun x l => ∀ r ∈ l, ∃ a b : Nat, r = ((a : Int), (b : Int)) ∧ RunOk9 f x a b) (fun r h => by cases h)
    (fun x k ih r hr => by
      obtain ⟨a, b, e, h⟩ := ih r hr
      refine ⟨a, b, e, h.lt, by have := h.le; omega, h.on, h.st, fun hb => ?_⟩
      by_cases e2 : b = x
      · rw [e2]; exact k
      · exact h.en (by omega))
    (fun s x hs k k2 ih r hr => by
      rcases List.mem_append.1 hr with hr | hr
      · obtain ⟨a, b, e, h⟩ := ih r hr
        refine ⟨a, b, e, h.lt, by have := h.le; omega, h.on, h.st, fun hb => ?_⟩
        rcases Nat.lt_or_ge b s with c | c
        · exact h.en c
        · have hle := h.le
          have hlt := h.lt
          have e2 := h.on (b - 1) (by omega) (by omega)
          rcases k with k | k
          · omega
          · rw [show s - 1 = b - 1 by omega, e2] at k; cases k
      · rw [List.mem_singleton] at hr
        exact ⟨s, x, hr, hs, Nat.le_refl _, k2, k, fun h => by omega⟩)
theorem rl_in9 {f : Nat → Bool} : ∀ x i, inR (rl f x) i = (decide (i < x) && f i) :=
  rl_ind9 (M := fun x l => ∀ i, inR l i = (decide (i < x) && f i)) (fun i => by simp [inR])
    (fun x k ih i => by
      rw [ih]
      by_cases e : i = x
      · subst e; simp [k]
      · rw [show decide (i < x + 1) = decide (i < x) from decide_eq_decide.2 (by omega)])
    (fun s x hs k k2 ih i => by
      rw [inR_snoc, ih]
      by_cases a : i < s
      · rw [decide_eq_true a, decide_eq_true (show i < x by omega), decide_eq_false (by dsimp only; omega), Bool.or_false]
      · by_cases b : i < x
        · rw [decide_eq_true b, k2 i (by omega) b, decide_eq_true (show ((s : Int), (x : Int)).1 ≤ (i : Int) ∧ (i : Int) < ((s : Int), (x : Int)).2 by dsimp only; omega)]; simp
        · rw [decide_eq_false a, decide_eq_false b, decide_eq_false (by dsimp only; omega)]; rfl)
theorem rl_apart {f : Nat → Bool} : ∀ x, apartR (rl f x) :=
  rl_ind9 (M := fun _ l => apartR l) (fun c d u v _ h => by cases h) (fun x _ ih => ih) (fun s x hs st on ih c d u v hcd hc hd => by
    rcases Nat.lt_or_ge d (rl f s).length with q | q
    · rw [List.getElem?_append_left (by omega)] at hc
      rw [List.getElem?_append_left q] at hd
      exact ih c d u v hcd hc hd
    · rw [List.getElem?_append_right q] at hd
      have hd0 : d - (rl f s).length = 0 := by
        cases e : d - (rl f s).length with
        | zero => rfl
        | succ n => rw [e] at hd; cases hd
      rw [hd0] at hd; cases hd
      rw [List.getElem?_append_left (by omega)] at hc
      obtain ⟨a, b, rfl, ok⟩ := rl_ok9 f s u (List.mem_of_getElem? hc)
      have h1 := ok.lt
      have h2 := ok.le
      rcases st with rfl | st
      · omega
      · dsimp only
        by_cases e : b = s
        · subst e
          have := ok.on (b - 1) (by omega) (by omega)
          rw [st] at this; cases this
        · omega)
end Go.Ab
/- Pixels connected: their runs connected. Conditions: none. -/
namespace Go.Ab
/-- A black pixel within the bitmap. -/
def blk_ (p : Nat → Nat → Bool) (w h x y : Nat) : Prop := x < w ∧ y < h ∧ p x y = true
/-- Neighbours. -/
def nb (x y x' y' : Nat) : Prop := x ≤ x' + 1 ∧ x' ≤ x + 1 ∧ y ≤ y' + 1 ∧ y' ≤ y + 1
inductive ConX (p : Nat → Nat → Bool) (w h x y : Nat) : Nat → Nat → Prop
  | refl : ConX p w h x y x y
  | step {x1 y1 x2 y2 : Nat} : ConX p w h x y x1 y1 → blk_ p w h x2 y2 → nb x1 y1 x2 y2 → ConX p w h x y x2 y2
/-- The pixel lies in the run. -/
def inRun (PL : List Plc) (i x y : Nat) : Prop := ∃ u : Int × Int, PL[i]? = some (u, y) ∧ u.1 ≤ (x : Int) ∧ (x : Int) < u.2
variable {p : Nat → Nat → Bool} {w h : Nat}
theorem rows_apart (y : Nat) : apartR ((rowsOf p w h).getD y []) := by
  by_cases hy : y < h
  · rw [rowsOf_getD hy]; exact rl_apart w
  · have : (rowsOf p w h).getD y [] = [] := by
      rw [List.getD_eq_getElem?_getD, List.getElem?_eq_none (by rw [rowsOf_len]; omega)]; rfl
    rw [this]
    intro c d u v _ h; cases h
theorem run_of {x y : Nat} (hb : blk_ p w h x y) : ∃ i, inRun (allPl (rowsOf p w h) h) i x y := by
  obtain ⟨h1, h2, h3⟩ := hb
  have e := rl_in9 (f := fun x => p x y) w x
  rw [decide_eq_true h1, h3] at e
  simp only [Bool.and_self, inR, List.any_eq_true, decide_eq_true_eq] at e
  obtain ⟨u, hu, k1, k2⟩ := e
  obtain ⟨c, hc⟩ := List.getElem?_of_mem hu
  exact ⟨_, u, pl_at h2 (by rw [rowsOf_getD h2]; exact hc), k1, k2⟩
theorem run_blk {i x y : Nat} (hr : inRun (allPl (rowsOf p w h) h) i x y) : blk_ p w h x y := by
  obtain ⟨u, e, k1, k2⟩ := hr
  obtain ⟨h1, c, _, hc⟩ := pl_of e
  dsimp only at h1 hc
  rw [rowsOf_getD h1] at hc
  have hm := List.mem_of_getElem? hc
  have hi := rl_in9 (f := fun x => p x y) w x
  have : inR (rl (fun x => p x y) w) x = true := by
    simp only [inR, List.any_eq_true, decide_eq_true_eq]
    exact ⟨u, hm, k1, k2⟩
  rw [this] at hi
  have := hi.symm
  simp only [Bool.and_eq_true, decide_eq_true_eq] at this
  exact ⟨this.1, h1, this.2⟩
/-- Neighbours lie in one run, or in runs that touch. -/
theorem nb_adj {i k x y x' y' : Nat} (h1 : inRun (allPl (rowsOf p w h) h) i x y) (h2 : inRun (allPl (rowsOf p w h) h) k x' y') (hn : nb x y x' y') : i = k ∨ AdjP (allPl (rowsOf p w h) h) i k ∨ AdjP (allPl (rowsOf p w h) h) k i := by
  obtain ⟨u, e1, a1, a2⟩ := h1
  obtain ⟨v, e2, b1, b2⟩ := h2
  obtain ⟨n1, n2, n3, n4⟩ := hn
  by_cases c1 : y' = y + 1
  · subst c1
    exact .inr (.inl ⟨u, v, y, e1, e2, by unfold touchP; omega⟩)
  by_cases c2 : y = y' + 1
  · subst c2
    exact .inr (.inr ⟨v, u, y', e2, e1, by unfold touchP; omega⟩)
  have c3 : y = y' := by omega
  subst c3
  obtain ⟨_, c, rfl, f1⟩ := pl_of e1
  obtain ⟨_, d, rfl, f2⟩ := pl_of e2
  dsimp only at f1 f2 ⊢
  rcases Nat.lt_trichotomy c d with q | q | q
  · have := rows_apart (p := p) (w := w) (h := h) y c d u v q f1 f2
    omega
  · subst q; exact .inl rfl
  · have := rows_apart (p := p) (w := w) (h := h) y d c v u q f2 f1
    omega
theorem ConP.cat {PL : List Plc} {i k l : Nat} (h : ConP PL i k) (h' : ConP PL k l) : ConP PL i l := by
  induction h' with
  | refl => exact h
  | step _ q ih => exact ih.step q
theorem con_px {i x y : Nat} (h1 : inRun (allPl (rowsOf p w h) h) i x y) {x' y' : Nat} (hc : ConX p w h x y x' y') : ∀ k, inRun (allPl (rowsOf p w h) h) k x' y' → ConP (allPl (rowsOf p w h) h) i k := by
  induction hc with
  | refl =>
    intro k h2
    rcases nb_adj h1 h2 ⟨by omega, by omega, by omega, by omega⟩ with rfl | q
    · exact .refl
    · exact ConP.refl.step q
  | @step x1 y1 x2 y2 hc hb hn ih =>
    intro k h2
    obtain ⟨j, hj⟩ : ∃ j, inRun (allPl (rowsOf p w h) h) j x1 y1 := by
      cases hc with
      | refl => exact ⟨i, h1⟩
      | step _ hb' _ => exact run_of hb'
    rcases nb_adj hj h2 hn with rfl | q
    · exact ih j hj
    · exact (ih j hj).step q
theorem ConX.cat {x y x1 y1 x2 y2 : Nat} (h1 : ConX p w h x y x1 y1) (h2 : ConX p w h x1 y1 x2 y2) : ConX p w h x y x2 y2 := by
  induction h2 with
  | refl => exact h1
  | step _ hb hn ih => exact ih.step hb hn
/-- Along a run. -/
theorem run_con {i x y : Nat} (h1 : inRun (allPl (rowsOf p w h) h) i x y) : ∀ (n x' : Nat), x' = x + n ∨ x = x' + n → inRun (allPl (rowsOf p w h) h) i x' y → ConX p w h x y x' y
  | 0, x', e, _ => by have : x' = x := by omega
                      subst this; exact .refl
  | n + 1, x', e, h2 => by
    obtain ⟨u, e1, a1, a2⟩ := h1
    obtain ⟨v, e2, b1, b2⟩ := h2
    rw [e1] at e2; cases e2
    rcases e with e | e
    · have ih := run_con ⟨u, e1, a1, a2⟩ n (x + n) (.inl rfl) ⟨u, e1, by omega, by omega⟩
      exact ih.step (run_blk ⟨u, e1, b1, b2⟩) ⟨by omega, by omega, by omega, by omega⟩
    · have ih := run_con ⟨u, e1, a1, a2⟩ n (x' + 1) (.inr (by omega)) ⟨u, e1, by omega, by omega⟩
      exact ih.step (run_blk ⟨u, e1, b1, b2⟩) ⟨by omega, by omega, by omega, by omega⟩
theorem adj_con {i k x y x' y' : Nat} (h1 : inRun (allPl (rowsOf p w h) h) i x y) (h2 : inRun (allPl (rowsOf p w h) h) k x' y') (ha : AdjP (allPl (rowsOf p w h) h) i k ∨ AdjP (allPl (rowsOf p w h) h) k i) : ConX p w h x y x' y' := by
  obtain ⟨u, e1, a1, a2⟩ := h1
  obtain ⟨v, e2, b1, b2⟩ := h2
  have near : ∀ (u v : Int × Int), touchP u v → 0 ≤ u.1 → 0 ≤ v.1 → ∃ s t : Nat, u.1 ≤ (s : Int) ∧ (s : Int) < u.2 ∧ v.1 ≤ (t : Int) ∧ (t : Int) < v.2 ∧ s ≤ t + 1 ∧ t ≤ s + 1 := fun u v ⟨t1, t2, t3, t4⟩ p1 p2 => by
    rcases Int.lt_or_le u.1 v.1 with q | q
    · by_cases z : v.1 < u.2
      · exact ⟨v.1.toNat, v.1.toNat, by omega, by omega, by omega, by omega, by omega, by omega⟩
      · exact ⟨(u.2 - 1).toNat, v.1.toNat, by omega, by omega, by omega, by omega, by omega, by omega⟩
    · by_cases z : u.1 < v.2
      · exact ⟨u.1.toNat, u.1.toNat, by omega, by omega, by omega, by omega, by omega, by omega⟩
      · exact ⟨u.1.toNat, (v.2 - 1).toNat, by omega, by omega, by omega, by omega, by omega, by omega⟩
  have pos : ∀ {i : Nat} {u : Int × Int} {y : Nat}, (allPl (rowsOf p w h) h)[i]? = some (u, y) → 0 ≤ u.1 := fun e => (pl_ok _ (List.mem_of_getElem? e)).1
  have go : ∀ {s t : Nat}, u.1 ≤ (s : Int) → (s : Int) < u.2 → v.1 ≤ (t : Int) → (t : Int) < v.2 → nb s y t y' → ConX p w h x y x' y' := fun {s t} g1 g2 g3 g4 hn => by
    have c1 := run_con ⟨u, e1, a1, a2⟩ (if x ≤ s then s - x else x - s) s (by split <;> omega) ⟨u, e1, g1, g2⟩
    have c2 := run_con ⟨v, e2, g3, g4⟩ (if t ≤ x' then x' - t else t - x') x' (by split <;> omega) ⟨v, e2, b1, b2⟩
    exact (c1.step (run_blk ⟨v, e2, g3, g4⟩) hn).cat c2
  rcases ha with ⟨u', v', z, f1, f2, t⟩ | ⟨u', v', z, f1, f2, t⟩
  · rw [e1] at f1; rw [e2] at f2; cases f1; cases f2
    obtain ⟨s, t, g1, g2, g3, g4, g5, g6⟩ := near u v t (pos e1) (pos e2)
    exact go g1 g2 g3 g4 ⟨g5, g6, by omega, by omega⟩
  · rw [e2] at f1; rw [e1] at f2; cases f1; cases f2
    obtain ⟨s, t, g1, g2, g3, g4, g5, g6⟩ := near v u t (pos e2) (pos e1)
    exact go g3 g4 g1 g2 ⟨g6, g5, by omega, by omega⟩
theorem con_run {i x y : Nat} (h1 : inRun (allPl (rowsOf p w h) h) i x y) {k : Nat} (hc : ConP (allPl (rowsOf p w h) h) i k) : ∀ x' y', inRun (allPl (rowsOf p w h) h) k x' y' → ConX p w h x y x' y' := by
  induction hc with
  | refl =>
    intro x' y' h2
    have : y' = y := by obtain ⟨u, e1, _⟩ := h1; obtain ⟨v, e2, _⟩ := h2; rw [e1] at e2; cases e2; rfl
    subst this
    exact run_con h1 (if x ≤ x' then x' - x else x - x') x' (by split <;> omega) h2
  | @step k l _ ha ih =>
    intro x' y' h2
    obtain ⟨s, t, hk⟩ : ∃ s t, inRun (allPl (rowsOf p w h) h) k s t := by
      have : ∃ u y, (allPl (rowsOf p w h) h)[k]? = some (u, y) := by
        rcases ha with ⟨u', v', z, f1, f2, _⟩ | ⟨u', v', z, f1, f2, _⟩
        · exact ⟨_, _, f1⟩
        · exact ⟨_, _, f2⟩
      obtain ⟨u, y, e⟩ := this
      obtain ⟨q1, q2, q3, q4⟩ := pl_ok _ (List.mem_of_getElem? e)
      dsimp only at q1 q2
      exact ⟨u.1.toNat, y, u, e, by omega, by omega⟩
    exact (ih s t hk).cat (adj_con hk h2 ha)
/-- **One root: connected pixels.** -/
theorem rho_px {i k x y x' y' : Nat} (h1 : inRun (allPl (rowsOf p w h) h) i x y) (h2 : inRun (allPl (rowsOf p w h) h) k x' y') : rhoF (rowsOf p w h) h i = rhoF (rowsOf p w h) h k ↔ ConX p w h x y x' y' := by
  rw [rho_con rows_apart]
  exact ⟨fun h => con_run h1 h x' y' h2, fun h => con_px h1 h k h2⟩
end Go.Ab
/- What a box holds; its pixels. Conditions: none. -/
namespace Go.Ab
theorem addB_mem : ∀ {bs : List BoxP} {root : Nat} {q : Plc} {b' : BoxP}, (bs.map BoxP.root).Nodup → b' ∈ addB bs root q →
    (∃ b ∈ bs, b.root = root ∧ b' = b.add q) ∨ (b' ∈ bs ∧ b'.root ≠ root) ∨ (root ∉ bs.map BoxP.root ∧ b' = BoxP.add ⟨root, q.1.1, q.2, q.1.2, q.2 + 1, []⟩ q)
  | [], root, q, b', _, h => .inr (.inr ⟨by simp, by simpa [addB] using h⟩)
  | c :: bs, root, q, b', hn, h => by
    rw [List.map_cons, List.nodup_cons] at hn
    unfold addB at h
    by_cases e : c.root = root
    · rw [if_pos e] at h
      rcases List.mem_cons.1 h with rfl | h
      · exact .inl ⟨c, List.mem_cons_self .., e, rfl⟩
      · exact .inr (.inl ⟨List.mem_cons_of_mem _ h, fun e2 => hn.1 (by rw [e, ← e2]; exact List.mem_map_of_mem h)⟩)
    · rw [if_neg e] at h
      rcases List.mem_cons.1 h with rfl | h
      · exact .inr (.inl ⟨List.mem_cons_self .., e⟩)
      · rcases addB_mem hn.2 h with ⟨b, h1, h2⟩ | ⟨h1, h2⟩ | ⟨h1, h2⟩
        · exact .inl ⟨b, List.mem_cons_of_mem _ h1, h2⟩
        · exact .inr (.inl ⟨List.mem_cons_of_mem _ h1, h2⟩)
        · refine .inr (.inr ⟨?_, h2⟩)
          rw [List.map_cons, List.mem_cons]
          rintro (q | q)
          · exact e q.symm
          · exact h1 q
theorem boxes_in {F : List Nat} {ρ : Nat → Nat} {PL : List Plc} (hF : Fst F ρ) : ∀ i, i ≤ PL.length → ∀ b ∈ boxes ρ PL i, ∀ q, q ∈ b.l ↔ ∃ j, j < i ∧ PL[j]? = some q ∧ ρ j = b.root
  | 0, _, b, hb => by simp [boxes] at hb
  | i + 1, hi, b, hb => by
    have ih := boxes_in (PL := PL) hF i (by omega)
    obtain ⟨r1, r2, r3⟩ := boxes_roots (PL := PL) hF i (by omega)
    have e : boxes ρ PL (i + 1) = addB (boxes ρ PL i) (ρ i) PL[i] := by rw [boxes, List.getElem?_eq_getElem (by omega)]
    have eP := List.getElem?_eq_getElem (show i < PL.length by omega)
    rw [e] at hb
    generalize PL[i] = z at hb eP
    intro q
    rcases addB_mem (r1.imp fun h => Nat.ne_of_lt h) hb with ⟨c, h1, h2, rfl⟩ | ⟨h1, h2⟩ | ⟨h1, rfl⟩
    · show q ∈ c.l ++ [z] ↔ ∃ j, j < i + 1 ∧ PL[j]? = some q ∧ ρ j = c.root
      rw [List.mem_append, ih c h1 q, List.mem_singleton]
      constructor
      · rintro (⟨j, a1, a2, a3⟩ | rfl)
        · exact ⟨j, by omega, a2, a3⟩
        · exact ⟨i, by omega, eP, h2.symm⟩
      · rintro ⟨j, a1, a2, a3⟩
        by_cases ej : j = i
        · subst ej; rw [eP] at a2; cases a2; exact .inr rfl
        · exact .inl ⟨j, by omega, a2, a3⟩
    · rw [ih b h1 q]
      constructor
      · rintro ⟨j, a1, a2, a3⟩; exact ⟨j, by omega, a2, a3⟩
      · rintro ⟨j, a1, a2, a3⟩
        by_cases ej : j = i
        · subst ej; exact absurd a3.symm h2
        · exact ⟨j, by omega, a2, a3⟩
    · show q ∈ [] ++ [z] ↔ ∃ j, j < i + 1 ∧ PL[j]? = some q ∧ ρ j = ρ i
      rw [List.nil_append, List.mem_singleton]
      constructor
      · rintro rfl; exact ⟨i, by omega, eP, rfl⟩
      · rintro ⟨j, a1, a2, a3⟩
        by_cases ej : j = i
        · subst ej; rw [eP] at a2; cases a2; rfl
        · exact absurd (a3 ▸ r3 j (by omega)) h1
theorem fill_fold {x : Int} {y : Nat} {i j : Nat} : ∀ (l : List Plc) (f : Nat → Nat → Bool), (l.foldl (fun p q => fillP p (q.1.1 - x) ((q.2 : Int) - (y : Nat)) (q.1.2 - q.1.1) 1 true) f) i j = true ↔ f i j = true ∨ ∃ q ∈ l, q.1.1 ≤ x + i ∧ x + i < q.1.2 ∧ (q.2 : Int) = y + j
  | [], f => by simp
  | q :: l, f => by
    rw [List.foldl_cons, fill_fold l]
    have e : fillP f (q.1.1 - x) ((q.2 : Int) - (y : Nat)) (q.1.2 - q.1.1) 1 true i j = true ↔ f i j = true ∨ (q.1.1 ≤ x + i ∧ x + i < q.1.2 ∧ (q.2 : Int) = y + j) := by
      unfold fillP
      by_cases c : q.1.1 - x ≤ i ∧ (i : Int) < q.1.1 - x + (q.1.2 - q.1.1) ∧ (q.2 : Int) - (y : Nat) ≤ j ∧ (j : Int) < (q.2 : Int) - (y : Nat) + 1
      · rw [if_pos c]
        exact ⟨fun _ => .inr (by omega), fun _ => rfl⟩
      · rw [if_neg c]
        exact ⟨.inl, fun h => h.elim id fun h => absurd h (by omega)⟩
    rw [e]
    constructor
    · rintro ((h | h) | ⟨z, h1, h2⟩)
      · exact .inl h
      · exact .inr ⟨q, List.mem_cons_self .., h⟩
      · exact .inr ⟨z, List.mem_cons_of_mem _ h1, h2⟩
    · rintro (h | ⟨z, h1, h2⟩)
      · exact .inl (.inl h)
      · rcases List.mem_cons.1 h1 with rfl | h1
        · exact .inl (.inr h2)
        · exact .inr ⟨z, h1, h2⟩
/-- **A box's pixels: those of the runs that have its root.** -/
theorem boxPx_iff {F : List Nat} {ρ : Nat → Nat} {PL : List Plc} (hF : Fst F ρ) {b : BoxP} (hb : b ∈ boxes ρ PL PL.length) (hx : 0 ≤ b.x) (i j : Nat) :
    boxPx b i j = true ↔ ∃ k, inRun PL k (b.x.toNat + i) (b.y + j) ∧ ρ k = b.root := by
  unfold boxPx
  rw [fill_fold]
  constructor
  · rintro (h | ⟨q, h1, h2, h3, h4⟩)
    · cases h
    · obtain ⟨k, _, e, er⟩ := (boxes_in hF PL.length (Nat.le_refl _) b hb q).1 h1
      refine ⟨k, ⟨q.1, ?_, by omega, by omega⟩, er⟩
      rw [e, show b.y + j = q.2 by omega]
  · rintro ⟨k, ⟨u, e, h1, h2⟩, er⟩
    refine .inr ⟨(u, b.y + j), (boxes_in hF PL.length (Nat.le_refl _) b hb _).2 ⟨k, (List.getElem?_eq_some_iff.1 e).1, e, er⟩, by dsimp only; omega, by dsimp only; omega, by dsimp only; omega⟩
end Go.Ab
/- A box is the smallest that holds its runs; its root is its first run. Conditions: none. -/
namespace Go.Ab
structure BoxAt (ρ : Nat → Nat) (PL : List Plc) (i : Nat) (b : BoxP) : Prop where
  root : b.root < i ∧ ρ b.root = b.root ∧ ∃ q, PL[b.root]? = some q ∧ b.y = q.2
  hold : ∀ q ∈ b.l, b.x ≤ q.1.1 ∧ q.1.2 ≤ b.r ∧ q.2 < b.b
  xa : ∃ q ∈ b.l, q.1.1 = b.x
  ra : ∃ q ∈ b.l, q.1.2 = b.r
  ba : ∃ q ∈ b.l, q.2 + 1 = b.b
  early : ∀ q ∈ b.l, ∃ j, j < i ∧ PL[j]? = some q
theorem boxes_at {F : List Nat} {ρ : Nat → Nat} {PL : List Plc} (hF : Fst F ρ) (mono : PL.Pairwise fun a b => a.2 ≤ b.2) : ∀ i, i ≤ PL.length → ∀ b ∈ boxes ρ PL i, BoxAt ρ PL i b
  | 0, _, b, hb => by simp [boxes] at hb
  | i + 1, hi, b, hb => by
    have ih := boxes_at (PL := PL) hF mono i (by omega)
    obtain ⟨r1, r2, r3⟩ := boxes_roots (PL := PL) hF i (by omega)
    have e : boxes ρ PL (i + 1) = addB (boxes ρ PL i) (ρ i) PL[i] := by rw [boxes, List.getElem?_eq_getElem (by omega)]
    have eP := List.getElem?_eq_getElem (show i < PL.length by omega)
    rw [e] at hb
    generalize PL[i] = z at hb eP
    have earlier : ∀ (j : Nat) (q : Plc), j < i → PL[j]? = some q → q.2 ≤ z.2 := fun j q hj hq => by
      obtain ⟨h1, e1⟩ := List.getElem?_eq_some_iff.1 hq
      obtain ⟨h2, e2⟩ := List.getElem?_eq_some_iff.1 eP
      have := List.pairwise_iff_getElem.1 mono j i h1 h2 hj
      rw [e1, e2] at this; exact this
    rcases addB_mem (r1.imp fun h => Nat.ne_of_lt h) hb with ⟨c, h1, h2, rfl⟩ | ⟨h1, h2⟩ | ⟨h1, rfl⟩
    · obtain ⟨⟨k1, k2, k3⟩, k4, ⟨qx, x1, x2⟩, ⟨qr, y1, y2⟩, ⟨qb, b1, b2⟩, k5⟩ := ih c h1
      refine ⟨⟨by show c.root < i + 1; omega, k2, k3⟩, fun q hq => ?_, ?_, ?_, ?_, fun q hq => ?_⟩
      · show (if z.1.1 < c.x then z.1.1 else c.x) ≤ q.1.1 ∧ q.1.2 ≤ (if z.1.2 > c.r then z.1.2 else c.r) ∧ q.2 < z.2 + 1
        rcases List.mem_append.1 hq with hq | hq
        · obtain ⟨a1, a2, a3⟩ := k4 q hq
          obtain ⟨j, j1, j2⟩ := k5 q hq
          have := earlier j q j1 j2
          refine ⟨?_, ?_, by omega⟩ <;> split <;> omega
        · simp at hq; subst hq
          refine ⟨?_, ?_, by omega⟩ <;> split <;> omega
      · show ∃ q ∈ c.l ++ [z], q.1.1 = if z.1.1 < c.x then z.1.1 else c.x
        by_cases q : z.1.1 < c.x
        · exact ⟨z, by simp, by rw [if_pos q]⟩
        · exact ⟨qx, List.mem_append_left _ x1, by rw [if_neg q]; exact x2⟩
      · show ∃ q ∈ c.l ++ [z], q.1.2 = if z.1.2 > c.r then z.1.2 else c.r
        by_cases q : z.1.2 > c.r
        · exact ⟨z, by simp, by rw [if_pos q]⟩
        · exact ⟨qr, List.mem_append_left _ y1, by rw [if_neg q]; exact y2⟩
      · exact ⟨z, by show z ∈ c.l ++ [z]; simp, rfl⟩
      · rcases List.mem_append.1 hq with hq | hq
        · obtain ⟨j, j1, j2⟩ := k5 q hq
          exact ⟨j, by omega, j2⟩
        · simp at hq; subst hq; exact ⟨i, by omega, eP⟩
    · obtain ⟨⟨k1, k2, k3⟩, k4, k6, k7, k8, k5⟩ := ih b h1
      exact ⟨⟨by omega, k2, k3⟩, k4, k6, k7, k8, fun q hq => let ⟨j, j1, j2⟩ := k5 q hq; ⟨j, by omega, j2⟩⟩
    · have hlo := hF.lo i
      have hri : ρ i = i := by
        rcases Nat.lt_or_ge (ρ i) i with q | q
        · have := r3 (ρ i) q
          rw [hF.idem] at this; exact absurd this h1
        · omega
      refine ⟨⟨by show ρ i < i + 1; omega, hF.idem i, z, by show PL[ρ i]? = some z; rw [hri]; exact eP, rfl⟩, fun q hq => ?_, ?_, ?_, ?_, fun q hq => ?_⟩
      · show (if z.1.1 < z.1.1 then z.1.1 else z.1.1) ≤ q.1.1 ∧ q.1.2 ≤ (if z.1.2 > z.1.2 then z.1.2 else z.1.2) ∧ q.2 < z.2 + 1
        have hq : q ∈ [] ++ [z] := hq
        simp at hq; subst hq
        refine ⟨?_, ?_, by omega⟩ <;> split <;> omega
      · exact ⟨z, by show z ∈ [] ++ [z]; simp, by show z.1.1 = if z.1.1 < z.1.1 then z.1.1 else z.1.1; split <;> rfl⟩
      · exact ⟨z, by show z ∈ [] ++ [z]; simp, by show z.1.2 = if z.1.2 > z.1.2 then z.1.2 else z.1.2; split <;> rfl⟩
      · exact ⟨z, by show z ∈ [] ++ [z]; simp, rfl⟩
      · have hq : q ∈ [] ++ [z] := hq
        simp at hq; subst hq; exact ⟨i, by omega, eP⟩
end Go.Ab
/- The pieces, laid, are the bitmap. Conditions: none. -/
namespace Go.Ab
theorem bk_fold {i j : Nat} : ∀ (L : List PcO) (f : Nat → Nat → Bool), (L.foldl (fun p o => blitP p (pixOf o.w.toNat o.ws) o.w.toNat o.h.toNat 0 0 o.w o.h o.x o.y 0) f) i j = true ↔
    f i j = true ∨ ∃ o ∈ L, (o.x ≤ i ∧ (i : Int) < o.x + o.w ∧ o.y ≤ j ∧ (j : Int) < o.y + o.h) ∧ pixOf o.w.toNat o.ws ((i : Int) - o.x).toNat ((j : Int) - o.y).toNat = true
  | [], f => by simp
  | o :: L, f => by
    rw [List.foldl_cons, bk_fold L]
    have e : blitP f (pixOf o.w.toNat o.ws) o.w.toNat o.h.toNat 0 0 o.w o.h o.x o.y 0 i j = true ↔ f i j = true ∨ ((o.x ≤ i ∧ (i : Int) < o.x + o.w ∧ o.y ≤ j ∧ (j : Int) < o.y + o.h) ∧ pixOf o.w.toNat o.ws ((i : Int) - o.x).toNat ((j : Int) - o.y).toNat = true) := by
      unfold blitP
      by_cases c : o.x ≤ i ∧ (i : Int) < o.x + o.w ∧ o.y ≤ j ∧ (j : Int) < o.y + o.h
      · rw [if_pos (by omega), Int.zero_add, Int.zero_add]
        unfold opB
        rw [if_pos rfl, Bool.or_eq_true]
        exact ⟨fun h => h.imp_right fun h => ⟨c, h⟩, fun h => h.imp_right fun h => h.2⟩
      · rw [if_neg (by omega)]
        exact ⟨.inl, fun h => h.elim id fun h => absurd h.1 c⟩
    rw [e]
    constructor
    · rintro ((h | h) | ⟨z, h1, h2⟩)
      · exact .inl h
      · exact .inr ⟨o, List.mem_cons_self .., h⟩
      · exact .inr ⟨z, List.mem_cons_of_mem _ h1, h2⟩
    · rintro (h | ⟨z, h1, h2⟩)
      · exact .inl (.inl h)
      · rcases List.mem_cons.1 h1 with rfl | h1
        · exact .inl (.inr h2)
        · exact .inr ⟨z, h1, h2⟩
theorem fst_row {F : List Nat} {ρ : Nat → Nat} (hF : Fst F ρ) : ∀ m, ∃ F', Fst F' ρ ∧ F'.length = F.length + m
  | 0 => ⟨F, hF, rfl⟩
  | m + 1 => by
    obtain ⟨F', h1, h2⟩ := fst_row hF m
    exact ⟨_, h1.app, by simp; omega⟩
theorem fst_jns : ∀ (J : List (Nat × Nat)) {F : List Nat} {ρ : Nat → Nat}, Fst F ρ → (∀ x ∈ J, x.1 < F.length ∧ x.2 < F.length) → ∃ F', Fst F' (jns ρ J) ∧ F'.length = F.length
  | [], F, _, h, _ => ⟨F, h, rfl⟩
  | x :: J, F, ρ, h, hb => by
    obtain ⟨b1, b2⟩ := hb x (List.mem_cons_self ..)
    obtain ⟨F', h1, h2⟩ := fst_jns J (h.join b1 b2) (fun y hy => by rw [List.length_set]; exact hb y (List.mem_cons_of_mem _ hy))
    exact ⟨F', h1, by rw [h2, List.length_set]⟩
theorem fst_rho (rows : List (List (Int × Int))) : ∀ y, ∃ F, Fst F (rhoF rows y) ∧ F.length = (allPl rows y).length
  | 0 => ⟨[], Fst.nil, rfl⟩
  | y + 1 => by
    obtain ⟨F, h1, h2⟩ := fst_rho rows y
    obtain ⟨F1, h3, h4⟩ := fst_row h1 (rows.getD y []).length
    have hl := allPl_succ rows y
    rw [rhoF]
    by_cases h : 0 < y
    · rw [if_pos h]
      have hoff : (allPl rows y).length = (allPl rows (y - 1)).length + (rows.getD (y - 1) []).length := by
        have := allPl_succ rows (y - 1)
        rwa [show y - 1 + 1 = y by omega] at this
      unfold tch
      rw [tchF_jns]
      obtain ⟨F2, h5, h6⟩ := fst_jns (tchJ (rows.getD (y - 1) []) (rows.getD y []) ((allPl rows y).length - (rows.getD (y - 1) []).length) (allPl rows y).length ((rows.getD (y - 1) []).length + (rows.getD y []).length) 0 0) h3 fun x hx => by
        obtain ⟨c, d, u, v, e1, e2, _, rfl⟩ := tchJ_in _ _ _ _ hx
        have c1 := (List.getElem?_eq_some_iff.1 e1).1
        have c2 := (List.getElem?_eq_some_iff.1 e2).1
        dsimp only
        omega
      exact ⟨F2, h5, by omega⟩
    · rw [if_neg h]
      exact ⟨F1, h3, by omega⟩
/-- **The pieces, laid, are the bitmap.** -/
theorem bk_pcs {p : Nat → Nat → Bool} {w h : Nat} {PR : List PcR} (hPR : PR.map PcR.p = pcsOf p w h) {i j : Nat} (hi : i < w) (hj : j < h) : bkPx (PR.map PcR.toO) i j = p i j := by
  obtain ⟨F, hF, hFl⟩ := fst_rho (rowsOf p w h) h
  have hok := boxes_ok (ρ := rhoF (rowsOf p w h) h) (pl_ok (p := p) (w := w) (h := h)) (pl_mono h) (allPl (rowsOf p w h) h).length
  have hat := boxes_at hF (pl_mono (rows := rowsOf p w h) h) (allPl (rowsOf p w h) h).length (Nat.le_refl _)
  have hro := (boxes_roots (PL := allPl (rowsOf p w h) h) hF _ (Nat.le_refl _)).2.2
  have iff_ : bkPx (PR.map PcR.toO) i j = true ↔ p i j = true := by
    unfold bkPx
    rw [bk_fold]
    constructor
    · rintro (q | ⟨o, h1, ⟨a1, a2, a3, a4⟩, h3⟩)
      · cases q
      · obtain ⟨r, hr, rfl⟩ := List.mem_map.1 h1
        have : r.p ∈ pcsOf p w h := by rw [← hPR]; exact List.mem_map_of_mem hr
        obtain ⟨b, hb, hbr⟩ := List.mem_map.1 this
        obtain ⟨o1, o2, o3, o4, o5, o6⟩ := (hok b hb).1
        simp only [PcR.toO, ← hbr, BoxP.pc] at a1 a2 a3 a4 h3
        rw [Int.toNat_natCast, pixOf_Wds _ (by omega) (by omega), boxPx_iff hF hb o1] at h3
        obtain ⟨k, hk, _⟩ := h3
        have := run_blk hk
        rw [show b.x.toNat + ((i : Int) - b.x).toNat = i by omega, show b.y + ((j : Int) - ((b.y : Nat) : Int)).toNat = j by omega] at this
        exact this.2.2
    · intro hp
      refine .inr ?_
      obtain ⟨k, hk⟩ := run_of (p := p) (w := w) (h := h) ⟨hi, hj, hp⟩
      have hkl : k < (allPl (rowsOf p w h) h).length := by obtain ⟨u, e, _⟩ := hk; exact (List.getElem?_eq_some_iff.1 e).1
      obtain ⟨b, hb, hbr⟩ := List.mem_map.1 (hro k hkl)
      obtain ⟨o1, o2, o3, o4, o5, o6⟩ := (hok b hb).1
      have hbp : b.pc ∈ pcsOf p w h := List.mem_map_of_mem hb
      rw [← hPR] at hbp
      obtain ⟨r, hr, hre⟩ := List.mem_map.1 hbp
      have hk' := hk
      obtain ⟨u, e, k1, k2⟩ := hk'
      have hmem := (boxes_in hF _ (Nat.le_refl _) b hb (u, j)).2 ⟨k, hkl, e, hbr.symm⟩
      obtain ⟨g1, g2, g3⟩ := (hat b hb).hold _ hmem
      have hy := (hat b hb).root
      obtain ⟨_, _, q0, hq0, hqy⟩ := hy
      have hby : b.y ≤ j := by
        have hlo := hF.lo k
        rw [← hbr] at hlo
        obtain ⟨z1, z2⟩ := List.getElem?_eq_some_iff.1 hq0
        obtain ⟨z3, z4⟩ := List.getElem?_eq_some_iff.1 e
        rcases Nat.lt_or_ge b.root k with q | q
        · have := List.pairwise_iff_getElem.1 (pl_mono (rows := rowsOf p w h) h) b.root k z1 z3 q
          rw [z2, z4] at this; rw [hqy]; exact this
        · have : b.root = k := by omega
          subst this
          rw [e] at hq0; cases hq0; omega
      dsimp only at g1 g2 g3
      refine ⟨r.toO, List.mem_map_of_mem hr, ?_⟩
      simp only [PcR.toO, hre, BoxP.pc]
      refine ⟨by omega, ?_⟩
      rw [Int.toNat_natCast, pixOf_Wds _ (by omega) (by omega), boxPx_iff hF hb o1]
      refine ⟨k, ?_, hbr.symm⟩
      rw [show b.x.toNat + ((i : Int) - b.x).toNat = i by omega, show b.y + ((j : Int) - ((b.y : Nat) : Int)).toNat = j by omega]
      exact hk
  cases h1 : bkPx (PR.map PcR.toO) i j <;> cases h2 : p i j <;> simp_all
end Go.Ab
/- A piece alone: its pixels stay connected. Conditions: none. -/
namespace Go.Ab
variable {p : Nat → Nat → Bool} {w h : Nat}
theorem in_box {F : List Nat} (hF : Fst F (rhoF (rowsOf p w h) h)) {b : BoxP} (hb : b ∈ boxes (rhoF (rowsOf p w h) h) (allPl (rowsOf p w h) h) (allPl (rowsOf p w h) h).length) {k X Y : Nat} (hk : inRun (allPl (rowsOf p w h) h) k X Y) (hr : rhoF (rowsOf p w h) h k = b.root) :
    0 ≤ b.x ∧ b.x ≤ X ∧ (X : Int) < b.r ∧ b.y ≤ Y ∧ Y < b.b := by
  have hat := boxes_at hF (pl_mono (rows := rowsOf p w h) h) (allPl (rowsOf p w h) h).length (Nat.le_refl _) b hb
  have hok := (boxes_ok (ρ := rhoF (rowsOf p w h) h) (pl_ok (p := p) (w := w) (h := h)) (pl_mono h) (allPl (rowsOf p w h) h).length b hb).1
  obtain ⟨u, e, k1, k2⟩ := hk
  have hkl := (List.getElem?_eq_some_iff.1 e).1
  have hmem := (boxes_in hF _ (Nat.le_refl _) b hb (u, Y)).2 ⟨k, hkl, e, hr⟩
  obtain ⟨g1, g2, g3⟩ := hat.hold _ hmem
  obtain ⟨_, _, q0, hq0, hqy⟩ := hat.root
  have hlo := hF.lo k
  rw [hr] at hlo
  have hby : b.y ≤ Y := by
    obtain ⟨z1, z2⟩ := List.getElem?_eq_some_iff.1 hq0
    obtain ⟨z3, z4⟩ := List.getElem?_eq_some_iff.1 e
    rcases Nat.lt_or_ge b.root k with q | q
    · have := List.pairwise_iff_getElem.1 (pl_mono (rows := rowsOf p w h) h) b.root k z1 z3 q
      rw [z2, z4] at this; rw [hqy]; exact this
    · have : b.root = k := by omega
      subst this
      rw [e] at hq0; cases hq0; omega
  dsimp only at g1 g2 g3
  exact ⟨hok.x0, by omega, by omega, hby, g3⟩
theorem con_move {F : List Nat} (hF : Fst F (rhoF (rowsOf p w h) h)) {b : BoxP} (hb : b ∈ boxes (rhoF (rowsOf p w h) h) (allPl (rowsOf p w h) h) (allPl (rowsOf p w h) h).length) {k x y : Nat} (hk : inRun (allPl (rowsOf p w h) h) k x y) (hr : rhoF (rowsOf p w h) h k = b.root)
    {x' y' : Nat} (hc : ConX p w h x y x' y') : ConX (boxPx b) (b.r - b.x).toNat (b.b - b.y) (x - b.x.toNat) (y - b.y) (x' - b.x.toNat) (y' - b.y) := by
  obtain ⟨n1, n2, n3, n4, n5⟩ := in_box hF hb hk hr
  induction hc with
  | refl => exact .refl
  | @step x1 y1 x2 y2 hc' hb' hn ih =>
    obtain ⟨k2, hk2⟩ := run_of hb'
    have r2 : rhoF (rowsOf p w h) h k2 = b.root := by rw [← hr]; exact ((rho_px hk hk2).2 (hc'.step hb' hn)).symm
    obtain ⟨_, m2, m3, m4, m5⟩ := in_box hF hb hk2 r2
    obtain ⟨k1, hk1⟩ : ∃ k1, inRun (allPl (rowsOf p w h) h) k1 x1 y1 := by
      cases hc' with
      | refl => exact ⟨k, hk⟩
      | step _ hb'' _ => exact run_of hb''
    have r1 : rhoF (rowsOf p w h) h k1 = b.root := by rw [← hr]; exact ((rho_px hk hk1).2 hc').symm
    obtain ⟨_, l2, l3, l4, l5⟩ := in_box hF hb hk1 r1
    obtain ⟨t1, t2, t3, t4⟩ := hn
    refine ih.step ⟨by omega, by omega, ?_⟩ ⟨by omega, by omega, by omega, by omega⟩
    rw [boxPx_iff hF hb n1]
    refine ⟨k2, ?_, r2⟩
    rw [show b.x.toNat + (x2 - b.x.toNat) = x2 by omega, show b.y + (y2 - b.y) = y2 by omega]
    exact hk2
/-- A piece's black pixels are all connected within it. -/
theorem piece_con {F : List Nat} (hF : Fst F (rhoF (rowsOf p w h) h)) {b : BoxP} (hb : b ∈ boxes (rhoF (rowsOf p w h) h) (allPl (rowsOf p w h) h) (allPl (rowsOf p w h) h).length) {i j i' j' : Nat}
    (h1 : boxPx b i j = true) (h2 : boxPx b i' j' = true) : ConX (boxPx b) (b.r - b.x).toNat (b.b - b.y) i j i' j' := by
  have hx := (boxes_ok (ρ := rhoF (rowsOf p w h) h) (pl_ok (p := p) (w := w) (h := h)) (pl_mono h) (allPl (rowsOf p w h) h).length b hb).1.x0
  obtain ⟨k, hk, r⟩ := (boxPx_iff hF hb hx i j).1 h1
  obtain ⟨k', hk', r'⟩ := (boxPx_iff hF hb hx i' j').1 h2
  have hc := (rho_px hk hk').1 (by rw [r, r'])
  have := con_move hF hb hk r hc
  rwa [show b.x.toNat + i - b.x.toNat = i by omega, show b.y + j - b.y = j by omega, show b.x.toNat + i' - b.x.toNat = i' by omega, show b.y + j' - b.y = j' by omega] at this
end Go.Ab
/- A bitmap all of whose black pixels are connected, up to its four edges, is one piece. Conditions: none. -/
namespace Go.Ab
variable {q : Nat → Nat → Bool} {W Ht : Nat}
theorem one_box (hcon : ∀ i j i' j', blk_ q W Ht i j → blk_ q W Ht i' j' → ConX q W Ht i j i' j') (hl : ∃ j, blk_ q W Ht 0 j) (hr : ∃ j, blk_ q W Ht (W - 1) j) (ht : ∃ i, blk_ q W Ht i 0) (hb : ∃ i, blk_ q W Ht i (Ht - 1)) :
    (pcsOf q W Ht).map PcP.key = [((0 : Int), (0 : Int), ((W : Nat) : Int), ((Ht : Nat) : Int), Wds W Ht q)] := by
  obtain ⟨F, hF, hFl⟩ := fst_rho (rowsOf q W Ht) Ht
  have hro := boxes_roots (PL := allPl (rowsOf q W Ht) Ht) hF _ (Nat.le_refl _)
  have hat := boxes_at hF (pl_mono (rows := rowsOf q W Ht) Ht) (allPl (rowsOf q W Ht) Ht).length (Nat.le_refl _)
  have hok := boxes_ok (ρ := rhoF (rowsOf q W Ht) Ht) (pl_ok (p := q) (w := W) (h := Ht)) (pl_mono Ht) (allPl (rowsOf q W Ht) Ht).length
  have px : ∀ k, k < (allPl (rowsOf q W Ht) Ht).length → ∃ x y, inRun (allPl (rowsOf q W Ht) Ht) k x y := fun k hk => by
    have e := List.getElem?_eq_getElem hk
    obtain ⟨p1, p2, _, _⟩ := pl_ok (p := q) _ (List.getElem_mem hk)
    exact ⟨_, _, (allPl (rowsOf q W Ht) Ht)[k].1, e, by rw [Int.toNat_of_nonneg p1]; exact Int.le_refl _, by rw [Int.toNat_of_nonneg p1]; exact p2⟩
  have same : ∀ k k', k < (allPl (rowsOf q W Ht) Ht).length → k' < (allPl (rowsOf q W Ht) Ht).length → rhoF (rowsOf q W Ht) Ht k = rhoF (rowsOf q W Ht) Ht k' := fun k k' h1 h2 => by
    obtain ⟨x, y, e1⟩ := px k h1
    obtain ⟨x', y', e2⟩ := px k' h2
    exact (rho_px e1 e2).2 (hcon _ _ _ _ (run_blk e1) (run_blk e2))
  obtain ⟨jl, hjl⟩ := hl
  obtain ⟨kl, hkl⟩ := run_of hjl
  have hkll : kl < (allPl (rowsOf q W Ht) Ht).length := by obtain ⟨u, e, _⟩ := hkl; exact (List.getElem?_eq_some_iff.1 e).1
  have hmem := hro.2.2 kl hkll
  obtain ⟨b, hbe⟩ : ∃ b, boxes (rhoF (rowsOf q W Ht) Ht) (allPl (rowsOf q W Ht) Ht) (allPl (rowsOf q W Ht) Ht).length = [b] := by
    have hroot : ∀ c ∈ boxes (rhoF (rowsOf q W Ht) Ht) (allPl (rowsOf q W Ht) Ht) (allPl (rowsOf q W Ht) Ht).length, c.root = rhoF (rowsOf q W Ht) Ht kl := fun c hc => by
      obtain ⟨r1, r2, _⟩ := (hat c hc).root
      rw [← r2]; exact same _ _ r1 hkll
    have hp := hro.1
    generalize boxes (rhoF (rowsOf q W Ht) Ht) (allPl (rowsOf q W Ht) Ht) (allPl (rowsOf q W Ht) Ht).length = bs at hroot hp hmem
    match bs, hroot, hp, hmem with
    | [], _, _, hm => simp at hm
    | [b], _, _, _ => exact ⟨b, rfl⟩
    | b :: c :: bs, hr2, hp2, _ =>
      have h1 := hr2 b (by simp)
      have h2 := hr2 c (by simp)
      rw [List.map_cons, List.map_cons, List.pairwise_cons] at hp2
      have := hp2.1 c.root (by simp)
      omega
  have hbm : b ∈ boxes (rhoF (rowsOf q W Ht) Ht) (allPl (rowsOf q W Ht) Ht) (allPl (rowsOf q W Ht) Ht).length := by rw [hbe]; simp
  have rootb : ∀ {k x y}, inRun (allPl (rowsOf q W Ht) Ht) k x y → rhoF (rowsOf q W Ht) Ht k = b.root := fun {k x y} hk => by
    obtain ⟨r1, r2, _⟩ := (hat b hbm).root
    rw [← r2]
    have : k < (allPl (rowsOf q W Ht) Ht).length := by obtain ⟨u, e, _⟩ := hk; exact (List.getElem?_eq_some_iff.1 e).1
    exact same _ _ this r1
  have ib : ∀ {x y}, blk_ q W Ht x y → 0 ≤ b.x ∧ b.x ≤ x ∧ (x : Int) < b.r ∧ b.y ≤ y ∧ y < b.b := fun {x y} h => by
    obtain ⟨k, hk⟩ := run_of h
    exact in_box hF hbm hk (rootb hk)
  obtain ⟨o1, o2, o3, o4, o5, o6⟩ := (hok b hbm).1
  obtain ⟨jr, hjr⟩ := hr
  obtain ⟨it, hit⟩ := ht
  obtain ⟨ib', hib⟩ := hb
  have g1 := ib hjl
  have g2 := ib hjr
  have g3 := ib hit
  have g4 := ib hib
  have w1 := hjl.1
  have w2 := hjl.2.1
  have ex : b.x = 0 := by omega
  have ey : b.y = 0 := by omega
  have er : b.r = W := by omega
  have eb : b.b = Ht := by omega
  have epx : ∀ i j, i < W → j < Ht → boxPx b i j = q i j := fun i j h1 h2 => by
    have h := boxPx_iff hF hbm o1 i j
    rw [ex, ey] at h
    simp only [Int.toNat_zero, Nat.zero_add] at h
    have : boxPx b i j = true ↔ q i j = true := by
      rw [h]
      constructor
      · rintro ⟨k, hk, _⟩; exact (run_blk hk).2.2
      · intro hq
        obtain ⟨k, hk⟩ := run_of (p := q) (w := W) (h := Ht) ⟨h1, h2, hq⟩
        exact ⟨k, hk, rootb hk⟩
    cases e1 : boxPx b i j <;> cases e2 : q i j <;> simp_all
  unfold pcsOf
  rw [hbe]
  simp only [List.map_cons, List.map_nil, PcP.key, BoxP.pc, ex, ey, er, eb, Nat.sub_zero, Int.sub_zero, Int.toNat_natCast]
  rw [Wds_congr epx]
  rfl
end Go.Ab
/- A piece alone is one piece. Conditions: none. -/
namespace Go.Ab
theorem rowsOf_congr {p q : Nat → Nat → Bool} {w h : Nat} (e : ∀ x y, x < w → y < h → p x y = q x y) : rowsOf p w h = rowsOf q w h := by
  unfold rowsOf
  refine List.map_congr_left fun y hy => rl_congr w fun x hx => e x y hx (List.mem_range.1 hy)
theorem pcs_congr {p q : Nat → Nat → Bool} {w h : Nat} (e : ∀ x y, x < w → y < h → p x y = q x y) : pcsOf p w h = pcsOf q w h := by
  unfold pcsOf; rw [rowsOf_congr e]
variable {p : Nat → Nat → Bool} {w h : Nat}
/-- **A piece alone is one piece, at 0, 0.** -/
theorem piece_one {P : PcP} (hP : P ∈ pcsOf p w h) : (pcsOf (pixOf P.w (Wds P.w P.h P.p)) P.w P.h).map PcP.key = [((0 : Int), (0 : Int), ((P.w : Nat) : Int), ((P.h : Nat) : Int), Wds P.w P.h P.p)] := by
  obtain ⟨b, hb, rfl⟩ := List.mem_map.1 hP
  rw [pcs_congr (q := b.pc.p) fun x y hx hy => pixOf_Wds _ hx hy]
  obtain ⟨F, hF, hFl⟩ := fst_rho (rowsOf p w h) h
  have hat := boxes_at hF (pl_mono (rows := rowsOf p w h) h) (allPl (rowsOf p w h) h).length (Nat.le_refl _) b hb
  have hok := (boxes_ok (ρ := rhoF (rowsOf p w h) h) (pl_ok (p := p) (w := w) (h := h)) (pl_mono h) (allPl (rowsOf p w h) h).length b hb).1
  obtain ⟨o1, o2, o3, o4, o5, o6⟩ := hok
  -- a pixel of one of its runs
  have at_ : ∀ z ∈ b.l, ∀ X : Nat, z.1.1 ≤ (X : Int) → (X : Int) < z.1.2 → blk_ (boxPx b) (b.r - b.x).toNat (b.b - b.y) (X - b.x.toNat) (z.2 - b.y) ∧ b.x.toNat ≤ X ∧ b.y ≤ z.2 := fun z hz X h1 h2 => by
    obtain ⟨k, hk, e, er⟩ := (boxes_in hF _ (Nat.le_refl _) b hb z).1 hz
    have hin : inRun (allPl (rowsOf p w h) h) k X z.2 := ⟨z.1, e, h1, h2⟩
    obtain ⟨_, m2, m3, m4, m5⟩ := in_box hF hb hin er
    refine ⟨⟨by omega, by omega, (boxPx_iff hF hb o1 _ _).2 ⟨k, ?_, er⟩⟩, by omega, m4⟩
    rw [show b.x.toNat + (X - b.x.toNat) = X by omega, show b.y + (z.2 - b.y) = z.2 by omega]; exact hin
  obtain ⟨zx, x1, x2⟩ := hat.xa
  obtain ⟨zr, r1, r2⟩ := hat.ra
  obtain ⟨zb, b1, b2⟩ := hat.ba
  obtain ⟨t1, t2, zt, t3, t4⟩ := hat.root
  have zt' := (boxes_in hF _ (Nat.le_refl _) b hb zt).2 ⟨b.root, t1, t3, t2⟩
  have px := o6 zx x1
  have pr := o6 zr r1
  have pb := o6 zb b1
  have pt := o6 zt zt'
  unfold plOk at px pr pb pt
  refine one_box (q := boxPx b) (W := (b.r - b.x).toNat) (Ht := b.b - b.y) (fun i j i' j' h1 h2 => piece_con hF hb h1.2.2 h2.2.2) ?_ ?_ ?_ ?_
  · obtain ⟨g1, g2, g3⟩ := at_ zx x1 zx.1.1.toNat (by omega) (by omega)
    rw [show zx.1.1.toNat - b.x.toNat = 0 by omega] at g1
    exact ⟨_, g1⟩
  · obtain ⟨g1, g2, g3⟩ := at_ zr r1 (zr.1.2 - 1).toNat (by omega) (by omega)
    rw [show (zr.1.2 - 1).toNat - b.x.toNat = (b.r - b.x).toNat - 1 by omega] at g1
    exact ⟨_, g1⟩
  · obtain ⟨g1, g2, g3⟩ := at_ zt zt' zt.1.1.toNat (by omega) (by omega)
    rw [show zt.2 - b.y = 0 by omega] at g1
    exact ⟨_, g1⟩
  · obtain ⟨g1, g2, g3⟩ := at_ zb b1 zb.1.1.toNat (by omega) (by omega)
    rw [show zb.2 - b.y = b.b - b.y - 1 by omega] at g1
    exact ⟨_, g1⟩
end Go.Ab
/- Together the pieces have as many black pixels as the bitmap. Conditions: none. -/
namespace Go.Ab
theorem cntF_sum9 (f : Nat → Bool) : ∀ n, cntF f n = sumN (fun i => (f i).toNat) n
  | 0 => rfl
  | n + 1 => by rw [cntF, sumN, cntF_sum9 f n]
theorem sumN_none {f : Nat → Nat} : ∀ {n : Nat}, (∀ i, i < n → f i = 0) → sumN f n = 0
  | 0, _ => rfl
  | n + 1, h => by rw [sumN, sumN_none fun i hi => h i (by omega), h n (by omega)]
theorem sumN_plus9 (f g : Nat → Nat) : ∀ n, sumN (fun i => f i + g i) n = sumN f n + sumN g n
  | 0 => rfl
  | n + 1 => by rw [sumN, sumN, sumN, sumN_plus9 f g n]; omega
theorem sumN_emb {f : Nat → Nat} {x0 W w : Nat} (hW : x0 + W ≤ w) (supp : ∀ x, x < w → ¬ (x0 ≤ x ∧ x < x0 + W) → f x = 0) : sumN f w = sumN (fun i => f (x0 + i)) W := by
  obtain ⟨r, rfl⟩ := Nat.exists_eq_add_of_le hW
  rw [Nat.add_assoc, sumN_add, sumN_add, sumN_none (n := x0) fun i hi => supp i (by omega) (by omega), sumN_none (n := r) fun i hi => supp _ (by omega) (by omega)]
  omega
theorem cnt2_sum9 (w : Nat) (p : Nat → Nat → Bool) (h : Nat) : cnt2 w p h = sumN (fun j => sumN (fun i => (p i j).toNat) w) h := sumN_congr fun j _ => cntF_sum9 _ _
theorem cnt_emb {g : Nat → Nat → Bool} {x0 y0 W Ht w h : Nat} (hW : x0 + W ≤ w) (hH : y0 + Ht ≤ h) (supp : ∀ x y, x < w → y < h → g x y = true → x0 ≤ x ∧ x < x0 + W ∧ y0 ≤ y ∧ y < y0 + Ht) :
    cnt2 w g h = cnt2 W (fun i j => g (x0 + i) (y0 + j)) Ht := by
  rw [cnt2_sum9, cnt2_sum9]
  have z : ∀ x y, x < w → y < h → ¬ (x0 ≤ x ∧ x < x0 + W ∧ y0 ≤ y ∧ y < y0 + Ht) → (g x y).toNat = 0 := fun x y hx hy hn => by
    cases e : g x y
    · rfl
    · exact absurd (supp x y hx hy e) hn
  rw [sumN_emb (x0 := y0) (W := Ht) hH fun y hy hn => sumN_none fun x hx => z x y hx hy (by omega)]
  exact sumN_congr fun j hj => sumN_emb hW fun x hx hn => z x _ hx (by omega) (by omega)
theorem cnt_or {f g : Nat → Nat → Bool} {w h : Nat} (d : ∀ x y, x < w → y < h → f x y = true → g x y = false) : cnt2 w (fun x y => f x y || g x y) h = cnt2 w f h + cnt2 w g h := by
  rw [cnt2_sum9, cnt2_sum9, cnt2_sum9, ← sumN_plus9]
  refine sumN_congr fun y hy => ?_
  rw [← sumN_plus9]
  refine sumN_congr fun x hx => ?_
  have := d x y hx hy
  cases e : f x y
  · simp
  · rw [this e]; rfl
theorem cnt_any {α : Type} {g : α → Nat → Nat → Bool} {w h : Nat} : ∀ {l : List α}, l.Pairwise (fun a b => ∀ x y, x < w → y < h → g a x y = true → g b x y = false) → (l.map fun a => cnt2 w (g a) h).sum = cnt2 w (fun x y => l.any fun a => g a x y) h
  | [], _ => by
    rw [cnt2_sum9]; exact (sumN_none fun y _ => sumN_none fun x _ => rfl).symm
  | a :: l, hp => by
    obtain ⟨h1, h2⟩ := List.pairwise_cons.1 hp
    rw [List.map_cons, List.sum_cons, cnt_any h2]
    simp only [List.any_cons]
    refine (cnt_or fun x y hx hy ha => ?_).symm
    refine Bool.eq_false_iff.2 fun hb => ?_
    obtain ⟨b, hb1, hb2⟩ := List.any_eq_true.1 hb
    rw [h1 b hb1 x y hx hy ha] at hb2
    cases hb2
/-- Where a box's pixels lie. -/
def boxIn (b : BoxP) (x y : Nat) : Bool := decide (b.x.toNat ≤ x ∧ x < b.x.toNat + (b.r - b.x).toNat ∧ b.y ≤ y ∧ y < b.y + (b.b - b.y)) && boxPx b (x - b.x.toNat) (y - b.y)
variable {p : Nat → Nat → Bool} {w h : Nat}
theorem boxIn_iff {F : List Nat} (hF : Fst F (rhoF (rowsOf p w h) h)) {b : BoxP} (hb : b ∈ boxes (rhoF (rowsOf p w h) h) (allPl (rowsOf p w h) h) (allPl (rowsOf p w h) h).length) (x y : Nat) :
    boxIn b x y = true ↔ ∃ k, inRun (allPl (rowsOf p w h) h) k x y ∧ rhoF (rowsOf p w h) h k = b.root := by
  have hok := (boxes_ok (ρ := rhoF (rowsOf p w h) h) (pl_ok (p := p) (w := w) (h := h)) (pl_mono h) (allPl (rowsOf p w h) h).length b hb).1
  unfold boxIn
  rw [Bool.and_eq_true, decide_eq_true_eq]
  constructor
  · rintro ⟨⟨a1, a2, a3, a4⟩, a5⟩
    rw [boxPx_iff hF hb hok.x0, show b.x.toNat + (x - b.x.toNat) = x by omega, show b.y + (y - b.y) = y by omega] at a5
    exact a5
  · rintro ⟨k, hk, hr⟩
    obtain ⟨n1, n2, n3, n4, n5⟩ := in_box hF hb hk hr
    refine ⟨⟨by omega, by omega, by omega, by omega⟩, ?_⟩
    rw [boxPx_iff hF hb hok.x0, show b.x.toNat + (x - b.x.toNat) = x by omega, show b.y + (y - b.y) = y by omega]
    exact ⟨k, hk, hr⟩
/-- Boxes lie apart. -/
theorem boxIn_one {F : List Nat} (hF : Fst F (rhoF (rowsOf p w h) h)) {b b' : BoxP} (hb : b ∈ boxes (rhoF (rowsOf p w h) h) (allPl (rowsOf p w h) h) (allPl (rowsOf p w h) h).length) (hb' : b' ∈ boxes (rhoF (rowsOf p w h) h) (allPl (rowsOf p w h) h) (allPl (rowsOf p w h) h).length)
    {x y : Nat} (h1 : boxIn b x y = true) (h2 : boxIn b' x y = true) : b.root = b'.root := by
  obtain ⟨k, hk, e⟩ := (boxIn_iff hF hb x y).1 h1
  obtain ⟨k', hk', e'⟩ := (boxIn_iff hF hb' x y).1 h2
  rw [← e, ← e']
  exact (rho_px hk hk').2 .refl
theorem boxIn_any {F : List Nat} (hF : Fst F (rhoF (rowsOf p w h) h)) {x y : Nat} (hx : x < w) (hy : y < h) :
    p x y = true ↔ ∃ b ∈ boxes (rhoF (rowsOf p w h) h) (allPl (rowsOf p w h) h) (allPl (rowsOf p w h) h).length, boxIn b x y = true := by
  constructor
  · intro hp
    obtain ⟨k, hk⟩ := run_of (p := p) (w := w) (h := h) ⟨hx, hy, hp⟩
    have hkl : k < (allPl (rowsOf p w h) h).length := by obtain ⟨u, e, _⟩ := hk; exact (List.getElem?_eq_some_iff.1 e).1
    obtain ⟨b, hb, hbr⟩ := List.mem_map.1 ((boxes_roots (PL := allPl (rowsOf p w h) h) hF _ (Nat.le_refl _)).2.2 k hkl)
    exact ⟨b, hb, (boxIn_iff hF hb x y).2 ⟨k, hk, hbr.symm⟩⟩
  · rintro ⟨b, hb, h1⟩
    obtain ⟨k, hk, _⟩ := (boxIn_iff hF hb x y).1 h1
    exact (run_blk hk).2.2
theorem boxes_pw {F : List Nat} (hF : Fst F (rhoF (rowsOf p w h) h)) :
    (boxes (rhoF (rowsOf p w h) h) (allPl (rowsOf p w h) h) (allPl (rowsOf p w h) h).length).Pairwise (fun a b => ∀ x y, x < w → y < h → boxIn a x y = true → boxIn b x y = false) := by
  have h1 := (boxes_roots (PL := allPl (rowsOf p w h) h) hF _ (Nat.le_refl _)).1
  rw [List.pairwise_map] at h1
  refine List.Pairwise.imp_of_mem ?_ h1
  intro a b ha hb hab x y _ _ h2
  refine Bool.eq_false_iff.2 fun h3 => ?_
  have := boxIn_one hF ha hb h2 h3
  omega
/-- **Together they have as many black pixels.** -/
theorem pcs_count (p : Nat → Nat → Bool) (w h : Nat) : ((pcsOf p w h).map fun P => cnt2 P.w P.p P.h).sum = cnt2 w p h := by
  obtain ⟨F, hF, hFl⟩ := fst_rho (rowsOf p w h) h
  have hok := boxes_ok (ρ := rhoF (rowsOf p w h) h) (pl_ok (p := p) (w := w) (h := h)) (pl_mono h) (allPl (rowsOf p w h) h).length
  unfold pcsOf
  rw [List.map_map]
  have e : ∀ b ∈ boxes (rhoF (rowsOf p w h) h) (allPl (rowsOf p w h) h) (allPl (rowsOf p w h) h).length, cnt2 w (boxIn b) h = ((fun P : PcP => cnt2 P.w P.p P.h) ∘ BoxP.pc) b := fun b hb => by
    obtain ⟨o1, o2, o3, o4, o5, o6⟩ := (hok b hb).1
    rw [cnt_emb (x0 := b.x.toNat) (y0 := b.y) (W := (b.r - b.x).toNat) (Ht := b.b - b.y) (by omega) (by omega) fun x y hx hy hb => by
      unfold boxIn at hb
      rw [Bool.and_eq_true, decide_eq_true_eq] at hb
      exact hb.1]
    refine cnt2_congr fun i j hi hj => ?_
    have hi : i < (b.r - b.x).toNat := hi
    have hj : j < b.b - b.y := hj
    unfold boxIn
    rw [decide_eq_true (by omega), show b.x.toNat + i - b.x.toNat = i by omega, show b.y + j - b.y = j by omega, Bool.true_and]
    rfl
  rw [← List.map_congr_left e, cnt_any (boxes_pw hF)]
  refine cnt2_congr fun x y hx hy => ?_
  have := boxIn_any (p := p) (w := w) (h := h) hF hx hy
  rw [← List.any_eq_true] at this
  cases h1 : p x y
  · refine Bool.eq_false_iff.2 fun h2 => ?_
    rw [this.2 h2] at h1; cases h1
  · exact this.1 h1
end Go.Ab
/- A law's bitmap and its pieces. Conditions: none. -/
namespace Go.Ab
structure HasL10 (P : Prog) : Prop where
  bm : HasBm P
  rz : HasRz P
  ru : HasRu P
  co : HasCo P
  w : HasL10w P
structure PcIn (w h : Nat) (p : PcP) : Prop where
  x : 0 ≤ p.x
  xw : p.x + (p.w : Nat) ≤ (w : Nat)
  y : 0 ≤ p.y
  yh : p.y + (p.h : Nat) ≤ (h : Nat)
  w1 : 1 ≤ p.w
  h1 : 1 ≤ p.h
  area : p.w * p.h ≤ w * h
theorem pcs_in {p : Nat → Nat → Bool} {w h : Nat} {P : PcP} (hP : P ∈ pcsOf p w h) : PcIn w h P := by
  obtain ⟨b, hb, rfl⟩ := List.mem_map.1 hP
  obtain ⟨o1, o2, o3, o4, o5, o6⟩ := (boxes_ok (ρ := rhoF (rowsOf p w h) h) (pl_ok (p := p) (w := w) (h := h)) (pl_mono h) (allPl (rowsOf p w h) h).length b hb).1
  exact ⟨o1, by simp only [BoxP.pc]; omega, by simp only [BoxP.pc]; omega, by simp only [BoxP.pc]; omega, by simp only [BoxP.pc]; omega, by simp only [BoxP.pc]; omega, Nat.mul_le_mul (by simp only [BoxP.pc]; omega) (by simp only [BoxP.pc]; omega)⟩
theorem pcs_may {p : Nat → Nat → Bool} {w h : Nat} {P : PcP} (hP : P ∈ pcsOf p w h) (ha : w * h ≤ 1048576) : mayB (P.w : Nat) (P.h : Nat) (Wds P.w P.h P.p) := by
  have k := pcs_in hP
  exact mayB_Wds k.w1 k.h1 (Nat.le_trans k.area ha)
theorem cnt_pos {w h : Nat} {p : Nat → Nat → Bool} {x y : Nat} (hx : x < w) (hy : y < h) (e : p x y = true) : 1 ≤ cnt2 w p h := by
  have sn : ∀ (f : Nat → Nat) (n i : Nat), i < n → f i ≤ sumN f n := fun f n => by
    induction n with
    | zero => intro i hi; omega
    | succ n ih => intro i hi; rw [sumN]; rcases Nat.lt_or_ge i n with k | k
                   · have := ih i k; omega
                   · obtain rfl : i = n := by omega
                     omega
  rw [cnt2_sum9]
  have h1 := sn (fun j => sumN (fun i => (p i j).toNat) w) h y hy
  have h2 := sn (fun i => (p i y).toNat) w x hx
  rw [e] at h2
  have : true.toNat = 1 := rfl
  omega
theorem pcs_pos {p : Nat → Nat → Bool} {w h : Nat} {P : PcP} (hP : P ∈ pcsOf p w h) : 1 ≤ cnt2 P.w P.p P.h := by
  obtain ⟨b, hb, rfl⟩ := List.mem_map.1 hP
  obtain ⟨F, hF, hFl⟩ := fst_rho (rowsOf p w h) h
  have hat := boxes_at hF (pl_mono (rows := rowsOf p w h) h) (allPl (rowsOf p w h) h).length (Nat.le_refl _) b hb
  obtain ⟨o1, o2, o3, o4, o5, o6⟩ := (boxes_ok (ρ := rhoF (rowsOf p w h) h) (pl_ok (p := p) (w := w) (h := h)) (pl_mono h) (allPl (rowsOf p w h) h).length b hb).1
  obtain ⟨z, x1, x2⟩ := hat.xa
  obtain ⟨k, hk, e, er⟩ := (boxes_in hF _ (Nat.le_refl _) b hb z).1 x1
  have px := o6 z x1
  unfold plOk at px
  have hin : inRun (allPl (rowsOf p w h) h) k z.1.1.toNat z.2 := ⟨z.1, e, by omega, by omega⟩
  obtain ⟨_, m2, m3, m4, m5⟩ := in_box hF hb hin er
  refine cnt_pos (x := z.1.1.toNat - b.x.toNat) (y := z.2 - b.y) (by simp only [BoxP.pc]; omega) (by simp only [BoxP.pc]; omega) ((boxPx_iff hF hb o1 _ _).2 ⟨k, ?_, er⟩)
  rw [show b.x.toNat + (z.1.1.toNat - b.x.toNat) = z.1.1.toNat by omega, show b.y + (z.2 - b.y) = z.2 by omega]; exact hin
theorem pcs_keyR {p : Nat → Nat → Bool} {w h : Nat} {PR : List PcR} (hPR : PR.map PcR.p = pcsOf p w h) (hw : w ≤ 1048576) (hh : h ≤ 1048576) : ∀ k ∈ PR.map fun r => r.p.key, keyR k := by
  intro k hk
  obtain ⟨r, hr, rfl⟩ := List.mem_map.1 hk
  have : r.p ∈ pcsOf p w h := by rw [← hPR]; exact List.mem_map_of_mem hr
  obtain ⟨a1, a2, a3, a4, a5, a6, a7⟩ := pcs_in this
  unfold keyR i64r PcP.key
  dsimp only
  omega
theorem BmM.le {o : BmO} (m : BmM o) : o.wn ≤ 1048576 ∧ o.hn ≤ 1048576 := by
  have h1 := m.area
  have h4 := Nat.le_mul_of_pos_right o.wn (show 0 < o.hn from m.h1)
  have h5 := Nat.le_mul_of_pos_left o.hn (show 0 < o.wn from m.w1)
  omega
theorem pcs_len {p : Nat → Nat → Bool} {w h : Nat} : (pcsOf p w h).length ≤ cnt2 w p h := by
  rw [← pcs_count]
  have h1 : ∀ r ∈ pcsOf p w h, 1 ≤ cnt2 r.w r.p r.h := fun r hr => pcs_pos hr
  generalize pcsOf p w h = l at *
  induction l with
  | nil => simp
  | cons a l ih => simp only [List.length_cons, List.map_cons, List.sum_cons]; have := h1 a (List.mem_cons_self ..); have := ih fun r hr => h1 r (List.mem_cons_of_mem _ hr); omega
section
variable {P : Prog} {H0 H : Heap} {R : List As} {Q : Out → Heap → Prop} {o : BmO}
theorem mayO9 (hp : HasL10 P) (k : BmOk H0 o) (hs : Hs H R) (hb : Bas H0 ∈ R) (hQ : ∀ b H', (b = true ↔ mayB o.w o.h o.ws) → Hs H' R → Q (.ret (.bool b)) H') : Call P 76 [.agg [.int .i64 o.w, .int .i64 o.h, o.v]] H Q :=
  may_ct hp.rz hs (k.arr.same (hs.bas hb) fun _ _ h => h) k.lt k.w k.h fun b H' h1 h2 _ => hQ b H' h1 h2
theorem ofO (hp : HasL10 P) (k : BmOk H0 o) (m : mayB o.w o.h o.ws) (hs : Hs H R) (hb : Bas H0 ∈ R)
    (hQ : ∀ ov PR H', PR.map PcR.p = pcsOf o.px o.wn o.hn → Hs H' (StP ov PR R) → Q (.ret (.tup [ov, .int .i64 0])) H') : Call P 181 [.agg [.int .i64 o.w, .int .i64 o.h, o.v]] H Q :=
  compsOf_ct hp.bm hp.ru hp.co hs (fun H' h' => k.arr.same (h'.bas hb) fun _ _ h => h) k.lt k.w k.h (fun n => absurd m n) fun _ ov PR H' h1 h2 => hQ ov PR H' h1 h2
/-- Small of one bitmap that lies in a block. -/
theorem small9 (hq : HasL2 P) (k : BmOk H0 o) {b c : Nat} (hc : H.get b = .cells [.int .i64 o.w, .int .i64 o.h, o.v] true) (hQ : Q (.ret (.bool (decide (64 * o.ws.length + 64 ≤ 20000)))) H) : Call P 98 [.sl (some (b, 0)) 1 c 3, .int .i64 20000] H Q := by
  obtain ⟨a1, c1, e1, hv⟩ := k.arr.shape
  refine small_ct hq (b := b) (c := c) (lens := [o.ws.length]) (most := 20000) (fun i hi => ?_) (fun i hi => ?_) (by simp) (by omega) ?_
  · obtain rfl : i = 0 := by simpa using hi
    exact ⟨a1, c1, e1, by rw [rd_s hc]; simp [hv]⟩
  · obtain rfl : i = 0 := by simpa using hi
    have := k.len
    show o.ws.length ≤ _
    omega
  · have e : bigN [o.ws.length] [o.ws.length].length = 64 * o.ws.length + 64 := by simp [bigN, sumN]
    rw [e]; exact hQ
theorem st_rd {ov : V} {PR : List PcR} {T : List As} {p : Nat → Nat → Bool} {w h : Nat} (hPR : PR.map PcR.p = pcsOf p w h) (hw : w ≤ 1048576) (hh : h ≤ 1048576) : PcsRd (StP ov PR T) ov (PR.map PcR.toO) := stP_rd (pcs_keyR hPR hw hh)
theorem st_shape {ov : V} {PR : List PcR} {T : List As} {H : Heap} (hs : Hs H (StP ov PR T)) : ∃ a c e, ov = .sl a PR.length c e := (hs.own).arr.shape
theorem st_at {ov : V} {PR : List PcR} {T : List As} {H : Heap} (hs : Hs H (StP ov PR T)) {i : Nat} (hi : i < PR.length) :
    ∃ b o c, ov = .sl (some (b, o)) PR.length c 5 ∧ rd H (some 5) b (o + i * 5) = some (.agg PR[i].toO.cs) ∧ (∀ k, k < 5 → rd H none b (o + i * 5 + k) = PR[i].toO.cs[k]?) ∧ rd H (some 3) b (o + i * 5 + 2) = some (.agg [.int .i64 (PR[i].p.w : Nat), .int .i64 (PR[i].p.h : Nat), PR[i].v]) := by
  have := (hs.own).arr
  rw [toO_cells, ← List.length_map (f := PcR.toO)] at this
  obtain ⟨b, o, c, h1, h2, h3, h4⟩ := po_rd this (a := i) (by simpa using hi)
  rw [List.length_map] at h1
  rw [List.getElem_map] at h2 h3 h4
  exact ⟨b, o, c, h1, h2, h3, h4⟩
theorem st_bm {ov : V} {PR : List PcR} {T : List As} {r : PcR} (hr : r ∈ PR) : BmA r.v r.p.w r.p.h r.p.p ∈ StP ov PR T :=
  List.mem_cons_of_mem _ (List.mem_append_left _ (List.mem_map.2 ⟨r, hr, rfl⟩))
theorem Hs.stTail {ov : V} {PR : List PcR} {T : List As} {H : Heap} (hs : Hs H (StP ov PR T)) : Hs H T := (hs.tail).drops
theorem ofB (hp : HasL10 P) {v : V} {w h : Nat} {p : Nat → Nat → Bool} (hs : Hs H R) (m : BmA v w h p ∈ R) (hQ : ∀ ov PR H', PR.map PcR.p = pcsOf p w h → Hs H' (StP ov PR R) → Q (.ret (.tup [ov, .int .i64 0])) H') :
    Call P 181 [.agg [.int .i64 (w : Nat), .int .i64 (h : Nat), v]] H Q := by
  obtain ⟨z1, z2, z3, z4, z5⟩ := bmSz (hs.ofmem m)
  refine compsOf_ct hp.bm hp.ru hp.co hs (fun H' h' => h'.bmarr m) (Wds_lt _ _ _) (by unfold i64r; omega) (by unfold i64r; omega) (fun n => absurd (mayB_Wds z1 z2 z3) n) fun _ ov PR H' h1 h2 => hQ ov PR H' ?_ h2
  rw [h1, Int.toNat_natCast, Int.toNat_natCast]
  exact pcs_congr fun x y hx hy => pixOf_Wds p hx hy
end
end Go.Ab
