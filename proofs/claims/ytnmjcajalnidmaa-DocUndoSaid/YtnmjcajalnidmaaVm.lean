/- A law's script. Conditions: none. -/
import Derived.Test.YtnmjcajalnidmaaC4
set_option linter.all false
namespace Go.Ab
abbrev optTD : TD := .agg [.int .i64, .int .i64, .int .i64, .int .i64, .flt .f64, .bool]
abbrev n9TD : TD := .arr 9 (.int .i64)
abbrev opTD : TD := .agg [.int .i64, n9TD, optTD, .int .u64]
abbrev scTD : TD := .agg [.sl 136 opTD]
structure OpO where
  d : Int
  n : List Int
  r : List V
def OpO.cs (o : OpO) : List V := .int .i64 o.d :: (o.n.map (V.int .i64) ++ o.r)
structure OpOk (o : OpO) : Prop where
  d : i64r o.d
  len : o.n.length = 9
  n : ∀ z ∈ o.n, i64r z
  rl : o.r.length = 7
  ro : o.r.all one = true
theorem is_op {H : Heap} {cs : List V} {x : TD.Ty opTD} (h : Is H opTD cs x) : ∃ o : OpO, cs = o.cs ∧ OpOk o := by
  obtain ⟨a, r, e, ⟨h1, g1⟩, a2, r2, e2, ⟨h2, h2'⟩, a3, r3, e3, h3, a4, r4, e4, ⟨h4, g4⟩, h5⟩ := h
  obtain ⟨h6, h7⟩ := split_ints h2
  obtain ⟨b1, q1, f1, ⟨k1, _⟩, b2, q2, f2, ⟨k2, _⟩, b3, q3, f3, ⟨k3, _⟩, b4, q4, f4, ⟨k4, _⟩, b5, q5, f5, ⟨k5, _⟩, b6, q6, f6, k6, k7⟩ := h3
  refine ⟨⟨x.1, x.2.1, a3 ++ a4⟩, ?_, g1, h2', fun z hz => h7 z hz, ?_, ?_⟩
  · rw [e, e2, e3, e4, h1, h6, show r4 = [] from h5]
    simp [OpO.cs]
  · rw [f1, f2, f3, f4, f5, f6, k1, k2, k3, k4, k5, k6, show q6 = [] from k7, h4]; rfl
  · rw [f1, f2, f3, f4, f5, f6, k1, k2, k3, k4, k5, k6, show q6 = [] from k7, h4]; rfl
def opCells (l : List OpO) : List V := l.flatMap OpO.cs
theorem opo_len {o : OpO} (h : OpOk o) : o.cs.length = 17 := by simp [OpO.cs, h.len, h.rl]
theorem opCells_at : ∀ {l : List OpO} (_ : ∀ o ∈ l, OpOk o) {i : Nat} (hi : i < l.length), ((opCells l).drop (i * 17)).take 17 = l[i].cs
  | o :: l, ho, 0, _ => by
    have := opo_len (ho o (by simp))
    rw [opCells, List.flatMap_cons, Nat.zero_mul, List.drop_zero, ← this, List.take_left']
    · rfl
    · rfl
  | o :: l, ho, i + 1, hi => by
    have ih := opCells_at (l := l) (fun q hq => ho q (by simp [hq])) (i := i) (by simpa using hi)
    have := opo_len (ho o (by simp))
    rw [show (i + 1) * 17 = 17 + i * 17 by omega, ← List.drop_drop, opCells, List.flatMap_cons, List.drop_left' this]
    exact ih
theorem split_ops {H : Heap} : ∀ {xs : List (TD.Ty opTD)} {L : List V}, Split (Is H opTD) L xs → ∃ l : List OpO, L = opCells l ∧ l.length = List.length xs ∧ ∀ o ∈ l, OpOk o
  | [], _, h => ⟨[], h, rfl, fun _ h => by cases h⟩
  | x :: xs, L, ⟨a, b, e, h1, h2⟩ => by
    obtain ⟨l, h3, h4, h5⟩ := split_ops h2
    obtain ⟨o, k1, k2⟩ := is_op h1
    refine ⟨o :: l, by rw [e, h3, k1]; rfl, by simp [h4], fun q hq => ?_⟩
    rcases List.mem_cons.1 hq with rfl | hq
    · exact k2
    · exact h5 q hq
theorem is_script {H : Heap} {cs : List V} {x : TD.Ty scTD} (h : Is H scTD cs x) : ∃ (v : V) (l : List OpO), cs = [v] ∧ Arr H v 17 l.length (opCells l) ∧ (∀ o ∈ l, OpOk o) ∧ l.length ≤ 140737488351232 := by
  obtain ⟨a, r, e, ⟨v, L, h1, h2, h3, h4⟩, h5⟩ := h
  obtain ⟨l, h6, h7, h8⟩ := split_ops h3
  exact ⟨v, l, by rw [e, h1, show r = [] from h5]; rfl, by rw [h7, ← h6]; exact h2, h8, by omega⟩
end Go.Ab
