/- Scripts of layer 1 as a law's data. Conditions: none. -/
import Derived.Test.YtcjkjlgjalanlaaBy
import Derived.Test.YtcjkjlgjalanlaaBu
set_option linter.all false
namespace Go.Ab

abbrev opTD : TD := .agg [.int .i64, .int .u64, .int .i64]
abbrev scriptTD : TD := .agg [.int .i64, .sl 24 opTD]
abbrev readingTD : TD := .agg [.sl 1 (.int .u8), .sl 24 opTD]

theorem inK_i64 {n : Int} (h : inK .i64 n) : -9223372036854775808 ≤ n ∧ n ≤ 9223372036854775807 := by
  unfold inK at h
  rw [show IntKind.i64.min = -9223372036854775808 by decide, show IntKind.i64.max = 9223372036854775807 by decide] at h
  exact h
theorem inK_u64 {n : Int} (h : inK .u64 n) : 0 ≤ n ∧ n ≤ 18446744073709551615 := by
  unfold inK at h
  rw [show IntKind.u64.min = 0 by decide, show IntKind.u64.max = 18446744073709551615 by decide] at h
  exact h
theorem split_ops {H : Heap} : ∀ {xs : List (TD.Ty opTD)} {L : List V}, Split (Is H opTD) L xs → ∃ ops : List OpN, L = opCells ops ∧ ops.length = List.length xs ∧ ∀ o ∈ ops, OpOk o
  | [], _, h => ⟨[], h, rfl, fun _ h => by cases h⟩
  | x :: xs, L, ⟨a, b, e, h1, h2⟩ => by
    obtain ⟨ops, h3, h4, h5⟩ := split_ops h2
    obtain ⟨a1, r1, e1, ⟨k1, k2⟩, a2, r2, e2, ⟨k3, k4⟩, a3, r3, e3, ⟨k5, k6⟩, k7⟩ := h1
    have k4' := inK_u64 k4
    refine ⟨(x.1, x.2.1.toNat, x.2.2.1) :: ops, ?_, by simp [h4], fun o ho => ?_⟩
    · rw [e, h3, e1, e2, e3, k1, k3, k5, show r3 = [] from k7]
      simp only [opCells, List.flatMap_cons, List.append_nil, List.singleton_append, List.cons_append, List.nil_append]
      rw [Int.toNat_of_nonneg k4'.1]
    · rcases List.mem_cons.1 ho with rfl | ho
      · exact ⟨inK_i64 k2, by dsimp only; omega, inK_i64 k6⟩
      · exact h5 o ho
theorem is_ops {H : Heap} {cs : List V} {x : TD.Ty (.sl 24 opTD)} (h : Is H (.sl 24 opTD) cs x) :
    ∃ (v : V) (ops : List OpN), cs = [v] ∧ Arr H v 3 ops.length (opCells ops) ∧ (∀ o ∈ ops, OpOk o) ∧ ops.length ≤ 140737488351232 := by
  obtain ⟨v, L, h1, h2, h3, h4⟩ := h
  obtain ⟨ops, h5, h6, h7⟩ := split_ops h3
  refine ⟨v, ops, h1, ?_, h7, by omega⟩
  rw [h6, ← h5]; exact h2
theorem is_script {H : Heap} {cs : List V} {x : TD.Ty scriptTD} (h : Is H scriptTD cs x) :
    ∃ (most : Int) (v : V) (ops : List OpN), cs = [.int .i64 most, v] ∧ (-9223372036854775808 ≤ most ∧ most ≤ 9223372036854775807) ∧ Arr H v 3 ops.length (opCells ops) ∧ (∀ o ∈ ops, OpOk o) ∧ ops.length ≤ 140737488351232 := by
  obtain ⟨a, r, e, ⟨h1, h2⟩, a2, r2, e2, h3, h4⟩ := h
  obtain ⟨v, ops, h5, h6, h7, h8⟩ := is_ops h3
  exact ⟨x.1, v, ops, by rw [e, e2, h1, h5, show r2 = [] from h4]; rfl, inK_i64 h2, h6, h7, h8⟩
theorem is_reading {H : Heap} {cs : List V} {x : TD.Ty readingTD} (h : Is H readingTD cs x) :
    ∃ (y v : V) (bs : List Nat) (ops : List OpN), cs = [y, v] ∧ Arr H y 1 bs.length (u8s bs) ∧ (∀ b ∈ bs, b < 256) ∧ bs.length ≤ 140737488351232 ∧ Arr H v 3 ops.length (opCells ops) ∧ (∀ o ∈ ops, OpOk o) ∧ ops.length ≤ 140737488351232 := by
  obtain ⟨a, r, e, h1, a2, r2, e2, h3, h4⟩ := h
  obtain ⟨v, ops, h5, h6, h7, h8⟩ := is_ops h3
  obtain ⟨y, bs, k1, k2, k3, k4⟩ := Is.nats (k := .u8) rfl h1
  refine ⟨y, v, bs, ops, by rw [e, e2, k1, h5, show r2 = [] from h4]; rfl, k2, fun b hb => ?_, by omega, h6, h7, h8⟩
  have := k3 b hb
  rw [show IntKind.u8.max = 255 by decide] at this
  omega
end Go.Ab
