/- What a box holds; its pixels. Conditions: none. -/
import Derived.Test.YtfgecfbknpifjaaPd
set_option linter.all false
namespace Go.Ab
theorem addB_mem : ∀ {bs : List BoxP} {root : Nat} {q : Plc} {b' : BoxP}, (bs.map BoxP.root).Nodup → b' ∈ addB bs root q →
    (∃ b ∈ bs, b.root = root ∧ b' = b.add q) ∨ (b' ∈ bs ∧ b'.root ≠ root) ∨ (root ∉ bs.map BoxP.root ∧ b' = BoxP.add ⟨root, q.1.1, q.2, q.1.2, q.2 + 1, []⟩ q)
  | [], root, q, b', _, h => .inr (.inr ⟨by simp, by simpa [addB] using h⟩)
  | c :: bs, root, q, b', hn, h => by
    rw [List.map_cons, List.nodup_cons] at hn
    unfold addB at h
    by_cases e : c.root = root
    · rw [if_pos e] at h
      rcases List.mem_cons.1 h with rfl | h
      · exact .inl ⟨c, List.mem_cons_self .., e, rfl⟩
      · exact .inr (.inl ⟨List.mem_cons_of_mem _ h, fun e2 => hn.1 (by rw [e, ← e2]; exact List.mem_map_of_mem h)⟩)
    · rw [if_neg e] at h
      rcases List.mem_cons.1 h with rfl | h
      · exact .inr (.inl ⟨List.mem_cons_self .., e⟩)
      · rcases addB_mem hn.2 h with ⟨b, h1, h2⟩ | ⟨h1, h2⟩ | ⟨h1, h2⟩
        · exact .inl ⟨b, List.mem_cons_of_mem _ h1, h2⟩
        · exact .inr (.inl ⟨List.mem_cons_of_mem _ h1, h2⟩)
        · refine .inr (.inr ⟨?_, h2⟩)
          rw [List.map_cons, List.mem_cons]
          rintro (q | q)
          · exact e q.symm
          · exact h1 q
theorem boxes_in {F : List Nat} {ρ : Nat → Nat} {PL : List Plc} (hF : Fst F ρ) : ∀ i, i ≤ PL.length → ∀ b ∈ boxes ρ PL i, ∀ q, q ∈ b.l ↔ ∃ j, j < i ∧ PL[j]? = some q ∧ ρ j = b.root
  | 0, _, b, hb => by simp [boxes] at hb
  | i + 1, hi, b, hb => by
    have ih := boxes_in (PL := PL) hF i (by omega)
    obtain ⟨r1, r2, r3⟩ := boxes_roots (PL := PL) hF i (by omega)
    have e : boxes ρ PL (i + 1) = addB (boxes ρ PL i) (ρ i) PL[i] := by rw [boxes, List.getElem?_eq_getElem (by omega)]
    have eP := List.getElem?_eq_getElem (show i < PL.length by omega)
    rw [e] at hb
    generalize PL[i] = z at hb eP
    intro q
    rcases addB_mem (r1.imp fun h => Nat.ne_of_lt h) hb with ⟨c, h1, h2, rfl⟩ | ⟨h1, h2⟩ | ⟨h1, rfl⟩
    · show q ∈ c.l ++ [z] ↔ ∃ j, j < i + 1 ∧ PL[j]? = some q ∧ ρ j = c.root
      rw [List.mem_append, ih c h1 q, List.mem_singleton]
      constructor
      · rintro (⟨j, a1, a2, a3⟩ | rfl)
        · exact ⟨j, by omega, a2, a3⟩
        · exact ⟨i, by omega, eP, h2.symm⟩
      · rintro ⟨j, a1, a2, a3⟩
        by_cases ej : j = i
        · subst ej; rw [eP] at a2; cases a2; exact .inr rfl
        · exact .inl ⟨j, by omega, a2, a3⟩
    · rw [ih b h1 q]
      constructor
      · rintro ⟨j, a1, a2, a3⟩; exact ⟨j, by omega, a2, a3⟩
      · rintro ⟨j, a1, a2, a3⟩
        by_cases ej : j = i
        · subst ej; exact absurd a3.symm h2
        · exact ⟨j, by omega, a2, a3⟩
    · show q ∈ [] ++ [z] ↔ ∃ j, j < i + 1 ∧ PL[j]? = some q ∧ ρ j = ρ i
      rw [List.nil_append, List.mem_singleton]
      constructor
      · rintro rfl; exact ⟨i, by omega, eP, rfl⟩
      · rintro ⟨j, a1, a2, a3⟩
        by_cases ej : j = i
        · subst ej; rw [eP] at a2; cases a2; rfl
        · exact absurd (a3 ▸ r3 j (by omega)) h1
theorem fill_fold {x : Int} {y : Nat} {i j : Nat} : ∀ (l : List Plc) (f : Nat → Nat → Bool), (l.foldl (fun p q => fillP p (q.1.1 - x) ((q.2 : Int) - (y : Nat)) (q.1.2 - q.1.1) 1 true) f) i j = true ↔ f i j = true ∨ ∃ q ∈ l, q.1.1 ≤ x + i ∧ x + i < q.1.2 ∧ (q.2 : Int) = y + j
  | [], f => by simp
  | q :: l, f => by
    rw [List.foldl_cons, fill_fold l]
    have e : fillP f (q.1.1 - x) ((q.2 : Int) - (y : Nat)) (q.1.2 - q.1.1) 1 true i j = true ↔ f i j = true ∨ (q.1.1 ≤ x + i ∧ x + i < q.1.2 ∧ (q.2 : Int) = y + j) := by
      unfold fillP
      by_cases c : q.1.1 - x ≤ i ∧ (i : Int) < q.1.1 - x + (q.1.2 - q.1.1) ∧ (q.2 : Int) - (y : Nat) ≤ j ∧ (j : Int) < (q.2 : Int) - (y : Nat) + 1
      · rw [if_pos c]
        exact ⟨fun _ => .inr (by omega), fun _ => rfl⟩
      · rw [if_neg c]
        exact ⟨.inl, fun h => h.elim id fun h => absurd h (by omega)⟩
    rw [e]
    constructor
    · rintro ((h | h) | ⟨z, h1, h2⟩)
      · exact .inl h
      · exact .inr ⟨q, List.mem_cons_self .., h⟩
      · exact .inr ⟨z, List.mem_cons_of_mem _ h1, h2⟩
    · rintro (h | ⟨z, h1, h2⟩)
      · exact .inl (.inl h)
      · rcases List.mem_cons.1 h1 with rfl | h1
        · exact .inl (.inr h2)
        · exact .inr ⟨z, h1, h2⟩
/-- **A box's pixels: those of the runs that have its root.** -/
theorem boxPx_iff {F : List Nat} {ρ : Nat → Nat} {PL : List Plc} (hF : Fst F ρ) {b : BoxP} (hb : b ∈ boxes ρ PL PL.length) (hx : 0 ≤ b.x) (i j : Nat) :
    boxPx b i j = true ↔ ∃ k, inRun PL k (b.x.toNat + i) (b.y + j) ∧ ρ k = b.root := by
  unfold boxPx
  rw [fill_fold]
  constructor
  · rintro (h | ⟨q, h1, h2, h3, h4⟩)
    · cases h
    · obtain ⟨k, _, e, er⟩ := (boxes_in hF PL.length (Nat.le_refl _) b hb q).1 h1
      refine ⟨k, ⟨q.1, ?_, by omega, by omega⟩, er⟩
      rw [e, show b.y + j = q.2 by omega]
  · rintro ⟨k, ⟨u, e, h1, h2⟩, er⟩
    refine .inr ⟨(u, b.y + j), (boxes_in hF PL.length (Nat.le_refl _) b hb _).2 ⟨k, (List.getElem?_eq_some_iff.1 e).1, e, er⟩, by dsimp only; omega, by dsimp only; omega, by dsimp only; omega⟩
end Go.Ab
