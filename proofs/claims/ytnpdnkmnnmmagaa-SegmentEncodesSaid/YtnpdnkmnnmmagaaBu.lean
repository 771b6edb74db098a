/- Scripts of layer 1; numbers of bits. Conditions: none. -/
import Derived.Test.YtnpdnkmnnmmagaaBt
set_option linter.all false
namespace Go.Ab

/-- What is done: a kind, a number, a width. -/
abbrev OpN := Int × Nat × Int
def opCells (l : List OpN) : List V := l.flatMap fun o => [.int .i64 o.1, .int .u64 o.2.1, .int .i64 o.2.2]
theorem opCells_length (l : List OpN) : (opCells l).length = l.length * 3 := by
  induction l with
  | nil => rfl
  | cons o l ih => simp only [opCells, List.flatMap_cons, List.length_append, List.length_cons, List.length_nil] at *; omega
theorem opCells_drop {l : List OpN} {i : Nat} (h : i < l.length) : (opCells l).drop (i * 3) = .int .i64 l[i].1 :: .int .u64 l[i].2.1 :: .int .i64 l[i].2.2 :: opCells (l.drop (i + 1)) := by
  induction l generalizing i with
  | nil => simp at h
  | cons o l ih =>
    cases i with
    | zero => simp [opCells]
    | succ i =>
      have := ih (i := i) (by simpa using h)
      rw [show (i + 1) * 3 = 3 + i * 3 by omega, ← List.drop_drop]
      simpa [opCells] using this
/-- Numbers as they may be. -/
def OpOk (o : OpN) : Prop := (-9223372036854775808 ≤ o.1 ∧ o.1 ≤ 9223372036854775807) ∧ o.2.1 < 18446744073709551616 ∧ (-9223372036854775808 ≤ o.2.2 ∧ o.2.2 ≤ 9223372036854775807)

/-- A script's list is read. -/
structure OpR (H : Heap) (b o i : Nat) (p : OpN) : Prop where
  r0 : rd H none b (o + i * 3) = some (.int .i64 p.1)
  r1 : rd H none b (o + i * 3 + 1) = some (.int .u64 (p.2.1 : Nat))
  r2 : rd H none b (o + i * 3 + 2) = some (.int .i64 p.2.2)
  ra : rd H (some 3) b (o + i * 3) = some (.agg [.int .i64 p.1, .int .u64 (p.2.1 : Nat), .int .i64 p.2.2])
theorem opRead {H : Heap} {b o c : Nat} {l : List OpN} (h : Arr H (.sl (some (b, o)) l.length c 3) 3 l.length (opCells l)) {i : Nat} (hi : i < l.length) : OpR H b o i l[i] := by
  have hd := opCells_drop hi
  have e : ∀ k, (opCells l)[i * 3 + k]? = ((opCells l).drop (i * 3))[k]? := fun k => by rw [List.getElem?_drop]
  have h0 := h.rdm hi (k := 0) (by omega)
  have h1 := h.rdm hi (k := 1) (by omega)
  have h2 := h.rdm hi (k := 2) (by omega)
  have h3 := h.agg hi
  rw [e, hd] at h0 h1 h2
  rw [hd] at h3
  exact ⟨by simpa using h0, by simpa using h1, by simpa using h2, by simpa using h3⟩

theorem shl1 {k : Nat} (h : k < 64) : shl .u64 1 (k : Int) = ((2 ^ k : Nat) : Int) := by
  have := shl64 (a := 1) (i := k) (by omega)
  rw [show ((1 : Nat) : Int) = 1 from rfl] at this
  rw [this, Nat.one_mul]
  have : 2 ^ k < 2 ^ 64 := Nat.pow_lt_pow_right (by omega) h
  generalize 2 ^ k = x at this
  exact wu64 (by omega)
theorem pow_pos2 (k : Nat) : ¬ ((2 ^ k : Nat) : Int) = 0 := by
  have := Nat.two_pow_pos k
  generalize 2 ^ k = x at this
  omega
theorem cmodN (a b : Nat) : (a : Int) % (b : Int) = ((a % b : Nat) : Int) := rfl
theorem cdivN (a b : Nat) : (a : Int) / (b : Int) = ((a / b : Nat) : Int) := rfl
theorem wPut_ok {l : List Bool} {most n k : Nat} (hk : k ≤ 64) (hn : k < 64 → n < 2 ^ k) (h : l.length + k ≤ 8 * most) : wPut l most n k = (0, l ++ bitsOf n k) := by
  rw [wPut, if_neg (by omega), if_neg, if_neg (by omega)]; rfl
  rintro ⟨h1, h2⟩
  exact h2 (Nat.div_eq_of_lt (hn (by omega)))
theorem wPut_full {l : List Bool} {most n k : Nat} (hk : k ≤ 64) (hn : k < 64 → n < 2 ^ k) (h : 8 * most < l.length + k) : wPut l most n k = (13, l) := by
  rw [wPut, if_neg (by omega), if_neg, if_pos (by omega)]
  rintro ⟨h1, h2⟩
  exact h2 (Nat.div_eq_of_lt (hn (by omega)))
end Go.Ab
