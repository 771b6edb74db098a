/- A box is the smallest that holds its runs; its root is its first run. Conditions: none. -/
import Derived.Test.YtfgecfbknpifjaaPe
set_option linter.all false
namespace Go.Ab
structure BoxAt (ρ : Nat → Nat) (PL : List Plc) (i : Nat) (b : BoxP) : Prop where
  root : b.root < i ∧ ρ b.root = b.root ∧ ∃ q, PL[b.root]? = some q ∧ b.y = q.2
  hold : ∀ q ∈ b.l, b.x ≤ q.1.1 ∧ q.1.2 ≤ b.r ∧ q.2 < b.b
  xa : ∃ q ∈ b.l, q.1.1 = b.x
  ra : ∃ q ∈ b.l, q.1.2 = b.r
  ba : ∃ q ∈ b.l, q.2 + 1 = b.b
  early : ∀ q ∈ b.l, ∃ j, j < i ∧ PL[j]? = some q
theorem boxes_at {F : List Nat} {ρ : Nat → Nat} {PL : List Plc} (hF : Fst F ρ) (mono : PL.Pairwise fun a b => a.2 ≤ b.2) : ∀ i, i ≤ PL.length → ∀ b ∈ boxes ρ PL i, BoxAt ρ PL i b
  | 0, _, b, hb => by simp [boxes] at hb
  | i + 1, hi, b, hb => by
    have ih := boxes_at (PL := PL) hF mono i (by omega)
    obtain ⟨r1, r2, r3⟩ := boxes_roots (PL := PL) hF i (by omega)
    have e : boxes ρ PL (i + 1) = addB (boxes ρ PL i) (ρ i) PL[i] := by rw [boxes, List.getElem?_eq_getElem (by omega)]
    have eP := List.getElem?_eq_getElem (show i < PL.length by omega)
    rw [e] at hb
    generalize PL[i] = z at hb eP
    have earlier : ∀ (j : Nat) (q : Plc), j < i → PL[j]? = some q → q.2 ≤ z.2 := fun j q hj hq => by
      obtain ⟨h1, e1⟩ := List.getElem?_eq_some_iff.1 hq
      obtain ⟨h2, e2⟩ := List.getElem?_eq_some_iff.1 eP
      have := List.pairwise_iff_getElem.1 mono j i h1 h2 hj
      rw [e1, e2] at this; exact this
    rcases addB_mem (r1.imp fun h => Nat.ne_of_lt h) hb with ⟨c, h1, h2, rfl⟩ | ⟨h1, h2⟩ | ⟨h1, rfl⟩
    · obtain ⟨⟨k1, k2, k3⟩, k4, ⟨qx, x1, x2⟩, ⟨qr, y1, y2⟩, ⟨qb, b1, b2⟩, k5⟩ := ih c h1
      refine ⟨⟨by show c.root < i + 1; omega, k2, k3⟩, fun q hq => ?_, ?_, ?_, ?_, fun q hq => ?_⟩
      · show (if z.1.1 < c.x then z.1.1 else c.x) ≤ q.1.1 ∧ q.1.2 ≤ (if z.1.2 > c.r then z.1.2 else c.r) ∧ q.2 < z.2 + 1
        rcases List.mem_append.1 hq with hq | hq
        · obtain ⟨a1, a2, a3⟩ := k4 q hq
          obtain ⟨j, j1, j2⟩ := k5 q hq
          have := earlier j q j1 j2
          refine ⟨?_, ?_, by omega⟩ <;> split <;> omega
        · simp at hq; subst hq
          refine ⟨?_, ?_, by omega⟩ <;> split <;> omega
      · show ∃ q ∈ c.l ++ [z], q.1.1 = if z.1.1 < c.x then z.1.1 else c.x
        by_cases q : z.1.1 < c.x
        · exact ⟨z, by simp, by rw [if_pos q]⟩
        · exact ⟨qx, List.mem_append_left _ x1, by rw [if_neg q]; exact x2⟩
      · show ∃ q ∈ c.l ++ [z], q.1.2 = if z.1.2 > c.r then z.1.2 else c.r
        by_cases q : z.1.2 > c.r
        · exact ⟨z, by simp, by rw [if_pos q]⟩
        · exact ⟨qr, List.mem_append_left _ y1, by rw [if_neg q]; exact y2⟩
      · exact ⟨z, by show z ∈ c.l ++ [z]; simp, rfl⟩
      · rcases List.mem_append.1 hq with hq | hq
        · obtain ⟨j, j1, j2⟩ := k5 q hq
          exact ⟨j, by omega, j2⟩
        · simp at hq; subst hq; exact ⟨i, by omega, eP⟩
    · obtain ⟨⟨k1, k2, k3⟩, k4, k6, k7, k8, k5⟩ := ih b h1
      exact ⟨⟨by omega, k2, k3⟩, k4, k6, k7, k8, fun q hq => let ⟨j, j1, j2⟩ := k5 q hq; ⟨j, by omega, j2⟩⟩
    · have hlo := hF.lo i
      have hri : ρ i = i := by
        rcases Nat.lt_or_ge (ρ i) i with q | q
        · have := r3 (ρ i) q
          rw [hF.idem] at this; exact absurd this h1
        · omega
      refine ⟨⟨by show ρ i < i + 1; omega, hF.idem i, z, by show PL[ρ i]? = some z; rw [hri]; exact eP, rfl⟩, fun q hq => ?_, ?_, ?_, ?_, fun q hq => ?_⟩
      · show (if z.1.1 < z.1.1 then z.1.1 else z.1.1) ≤ q.1.1 ∧ q.1.2 ≤ (if z.1.2 > z.1.2 then z.1.2 else z.1.2) ∧ q.2 < z.2 + 1
        have hq : q ∈ [] ++ [z] := hq
        simp at hq; subst hq
        refine ⟨?_, ?_, by omega⟩ <;> split <;> omega
      · exact ⟨z, by show z ∈ [] ++ [z]; simp, by show z.1.1 = if z.1.1 < z.1.1 then z.1.1 else z.1.1; split <;> rfl⟩
      · exact ⟨z, by show z ∈ [] ++ [z]; simp, by show z.1.2 = if z.1.2 > z.1.2 then z.1.2 else z.1.2; split <;> rfl⟩
      · exact ⟨z, by show z ∈ [] ++ [z]; simp, rfl⟩
      · have hq : q ∈ [] ++ [z] := hq
        simp at hq; subst hq; exact ⟨i, by omega, eP⟩
end Go.Ab
