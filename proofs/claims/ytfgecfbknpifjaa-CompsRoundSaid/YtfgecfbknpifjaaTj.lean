/- Plain facts of runs that are placed, and of their boxes. Conditions: none. -/
import Derived.Test.YtfgecfbknpifjaaTi
set_option linter.all false
namespace Go.Ab
theorem rl_in0 {f : Nat → Bool} : ∀ x, ∀ r ∈ rl f x, 0 ≤ r.1 ∧ r.1 < r.2 ∧ r.2 ≤ (x : Int)
  | 0, r, h => by simp [rl] at h
  | x + 1, r, h => by
    have ih := rl_in0 (f := f) x
    rw [rl] at h
    split at h
    · split at h
      · rcases List.mem_append.1 h with h | h
        · have := ih r h; omega
        · simp at h; subst h; dsimp only; omega
      · rcases List.mem_append.1 h with h | h
        · have := ih r (List.dropLast_subset _ h); omega
        · simp only [List.mem_singleton] at h
          subst h
          dsimp only
          cases hl : (rl f x).getLast? with
          | none => rw [List.getLastD_eq_getLast?, hl]; simp
          | some z =>
            have := ih z (List.mem_of_getLast? hl)
            rw [List.getLastD_eq_getLast?, hl]
            simp only [Option.getD_some]; omega
    · have := ih r h; omega
variable {rows : List (List (Int × Int))}
theorem pl_row : ∀ (y : Nat) (q : Plc), q ∈ allPl rows y → q.2 < y ∧ q.1 ∈ rows.getD q.2 []
  | 0, q, h => by simp [allPl] at h
  | y + 1, q, h => by
    rw [allPl] at h
    rcases List.mem_append.1 h with h | h
    · have := pl_row y q h; exact ⟨by omega, this.2⟩
    · simp only [plRow, List.mem_map] at h
      obtain ⟨r, h1, rfl⟩ := h
      exact ⟨by dsimp only; omega, h1⟩
theorem pl_mono : ∀ (y : Nat), (allPl rows y).Pairwise fun a b => a.2 ≤ b.2
  | 0 => List.Pairwise.nil
  | y + 1 => by
    rw [allPl, List.pairwise_append]
    refine ⟨pl_mono y, ?_, fun a ha b hb => ?_⟩
    · rw [plRow, List.pairwise_map]
      exact List.Pairwise.imp (fun _ => Nat.le_refl _) (List.pairwise_of_forall (R := fun _ _ => True) fun _ _ => trivial)
    · have h1 := (pl_row y a ha).1
      simp only [plRow, List.mem_map] at hb
      obtain ⟨r, _, rfl⟩ := hb
      dsimp only; omega
theorem rowsOf_getD {p : Nat → Nat → Bool} {w h y : Nat} (hy : y < h) : (rowsOf p w h).getD y [] = rl (fun x => p x y) w := by
  rw [List.getD_eq_getElem?_getD]; simp [rowsOf, hy]
theorem pl_len {p : Nat → Nat → Bool} {w h : Nat} : ∀ y, y ≤ h → (allPl (rowsOf p w h) y).length ≤ y * w
  | 0, _ => by simp [allPl]
  | y + 1, hy => by
    rw [allPl_succ, rowsOf_getD (by omega), Nat.add_mul, Nat.one_mul]
    have := pl_len (p := p) (w := w) (h := h) y (by omega)
    have := rl_len (fun x => p x y) w
    omega
theorem pl_ok {p : Nat → Nat → Bool} {w h : Nat} : ∀ q ∈ allPl (rowsOf p w h) h, plOk w h q := fun q hq => by
  obtain ⟨h1, h2⟩ := pl_row h q hq
  rw [rowsOf_getD h1] at h2
  obtain ⟨k1, k2, k3⟩ := rl_in0 w q.1 h2
  exact ⟨k1, k2, k3, h1⟩
/-! ### Boxes -/
theorem addB_roots : ∀ (bs : List BoxP) (root : Nat) (q : Plc), (addB bs root q).map BoxP.root = if root ∈ bs.map BoxP.root then bs.map BoxP.root else bs.map BoxP.root ++ [root]
  | [], root, q => rfl
  | b :: bs, root, q => by
    by_cases h : b.root = root
    · rw [addB, if_pos h, if_pos (by simp [h])]; simp [BoxP.add]
    · have ih := addB_roots bs root q
      rw [addB, if_neg h, List.map_cons, ih, List.map_cons]
      by_cases k : root ∈ bs.map BoxP.root
      · rw [if_pos k, if_pos (List.mem_cons_of_mem _ k)]
      · rw [if_neg k, if_neg (by
          intro m
          rcases List.mem_cons.1 m with m | m
          · exact h m.symm
          · exact k m)]; rfl
theorem addB_all {M : BoxP → Prop} {root : Nat} {q : Plc} : ∀ {bs : List BoxP}, (∀ b ∈ bs, M (b.add q) ∧ M b) → M (BoxP.add ⟨root, q.1.1, q.2, q.1.2, q.2 + 1, []⟩ q) → ∀ b ∈ addB bs root q, M b
  | [], _, h0, b, hb => by simp [addB] at hb; subst hb; exact h0
  | c :: bs, h, h0, b, hb => by
    unfold addB at hb
    split at hb
    · rcases List.mem_cons.1 hb with rfl | hb
      · exact (h c (List.mem_cons_self ..)).1
      · exact (h b (List.mem_cons_of_mem _ hb)).2
    · rcases List.mem_cons.1 hb with rfl | hb
      · exact (h b (List.mem_cons_self ..)).2
      · exact addB_all (fun x hx => h x (List.mem_cons_of_mem _ hx)) h0 b hb
theorem boxes_ok {ρ : Nat → Nat} {PL : List Plc} {w h : Nat} (ok : ∀ q ∈ PL, plOk w h q) (mono : PL.Pairwise fun a b => a.2 ≤ b.2) : ∀ i, ∀ b ∈ boxes ρ PL i, BxOk w h b ∧ ∀ (j : Nat) (q : Plc), i ≤ j → PL[j]? = some q → b.y ≤ q.2
  | 0, b, hb => by simp [boxes] at hb
  | i + 1, b, hb => by
    unfold boxes at hb
    have ih := boxes_ok (ρ := ρ) ok mono i
    split at hb
    · rename_i q hq
      have hqm := List.mem_of_getElem? hq
      have hqo := ok q hqm
      have later : ∀ (j : Nat) (z : Plc), i + 1 ≤ j → PL[j]? = some z → q.2 ≤ z.2 := fun j z hj hz => by
        obtain ⟨h1, e1⟩ := List.getElem?_eq_some_iff.1 hq
        obtain ⟨h2, e2⟩ := List.getElem?_eq_some_iff.1 hz
        have := List.pairwise_iff_getElem.1 mono i j h1 h2 (by omega)
        rw [e1, e2] at this; exact this
      obtain ⟨p1, p2, p3, p4⟩ := hqo
      refine addB_all (M := fun b => BxOk w h b ∧ ∀ (j : Nat) (q : Plc), i + 1 ≤ j → PL[j]? = some q → b.y ≤ q.2) (fun c hc => ?_) ?_ b hb
      · obtain ⟨⟨o1, o2, o3, o4, o5, o6⟩, k⟩ := ih c hc
        have hy := k i q (Nat.le_refl _) hq
        refine ⟨⟨⟨?_, ?_, ?_, ?_, ?_, ?_⟩, fun j z hj hz => k j z (by omega) hz⟩, ⟨o1, o2, o3, o4, o5, o6⟩, fun j z hj hz => k j z (by omega) hz⟩
        · show 0 ≤ if q.1.1 < c.x then q.1.1 else c.x
          split <;> omega
        · show (if q.1.1 < c.x then q.1.1 else c.x) < if q.1.2 > c.r then q.1.2 else c.r
          split <;> split <;> omega
        · show (if q.1.2 > c.r then q.1.2 else c.r) ≤ (w : Int)
          split <;> omega
        · show c.y < q.2 + 1
          omega
        · show q.2 + 1 ≤ h
          omega
        · intro z hz
          rcases List.mem_append.1 hz with hz | hz
          · exact o6 z hz
          · simp at hz; subst hz; exact ⟨p1, p2, p3, p4⟩
      · refine ⟨⟨?_, ?_, ?_, ?_, ?_, ?_⟩, fun j z hj hz => later j z hj hz⟩
        · show 0 ≤ if q.1.1 < q.1.1 then q.1.1 else q.1.1
          split <;> omega
        · show (if q.1.1 < q.1.1 then q.1.1 else q.1.1) < if q.1.2 > q.1.2 then q.1.2 else q.1.2
          split <;> split <;> omega
        · show (if q.1.2 > q.1.2 then q.1.2 else q.1.2) ≤ (w : Int)
          split <;> omega
        · show q.2 < q.2 + 1
          omega
        · show q.2 + 1 ≤ h
          omega
        · intro z hz
          simp [BoxP.add] at hz; subst hz; exact ⟨p1, p2, p3, p4⟩
    · exact ⟨(ih b hb).1, fun j q hj hq => (ih b hb).2 j q (by omega) hq⟩
/-- Roots rise. -/
theorem boxes_roots {F : List Nat} {ρ : Nat → Nat} {PL : List Plc} (hF : Fst F ρ) : ∀ i, i ≤ PL.length → ((boxes ρ PL i).map BoxP.root).Pairwise (· < ·) ∧ (∀ r ∈ (boxes ρ PL i).map BoxP.root, r < i) ∧ ∀ j, j < i → ρ j ∈ (boxes ρ PL i).map BoxP.root
  | 0, _ => ⟨List.Pairwise.nil, by simp [boxes], fun j h => by omega⟩
  | i + 1, hi => by
    obtain ⟨h1, h2, h3⟩ := boxes_roots (PL := PL) hF i (by omega)
    have e : boxes ρ PL (i + 1) = addB (boxes ρ PL i) (ρ i) PL[i] := by rw [boxes, List.getElem?_eq_getElem (by omega)]
    rw [e, addB_roots]
    by_cases k : ρ i ∈ (boxes ρ PL i).map BoxP.root
    · rw [if_pos k]
      refine ⟨h1, fun r hr => by have := h2 r hr; omega, fun j hj => ?_⟩
      by_cases ej : j = i
      · subst ej; exact k
      · exact h3 j (by omega)
    · rw [if_neg k]
      have hlo := hF.lo i
      have hri : ρ i = i := by
        rcases Nat.lt_or_ge (ρ i) i with q | q
        · have := h3 (ρ i) q
          rw [hF.idem] at this; exact absurd this k
        · omega
      rw [hri]
      refine ⟨?_, fun r hr => ?_, fun j hj => ?_⟩
      · rw [List.pairwise_append]
        exact ⟨h1, by simp, fun a ha b hb => by simp at hb; subst hb; exact h2 a ha⟩
      · rcases List.mem_append.1 hr with hr | hr
        · have := h2 r hr; omega
        · simp at hr; omega
      · by_cases ej : j = i
        · subst ej; rw [hri]; simp
        · exact List.mem_append_left _ (h3 j (by omega))
theorem boxes_count {F : List Nat} {ρ : Nat → Nat} {PL : List Plc} (hF : Fst F ρ) : (boxes ρ PL PL.length).length ≤ PL.length := by
  obtain ⟨h1, h2, _⟩ := boxes_roots (PL := PL) hF PL.length (Nat.le_refl _)
  have := nodup_le PL.length _ (h1.imp fun h => Nat.ne_of_lt h) h2
  simpa using this
end Go.Ab
