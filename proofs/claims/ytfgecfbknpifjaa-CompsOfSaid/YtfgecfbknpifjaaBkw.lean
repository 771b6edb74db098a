/- What burinkit's Within comes to. Conditions: none. -/
import Derived.Test.YtfgecfbknpifjaaK4
import Derived.Test.YtfgecfbknpifjaaPKitW
set_option linter.all false
namespace Go.Ab
theorem within_ct {P : Prog} (hp : P 29 = some burinkit_Within) {H : Heap} {i : Int} {n : Nat} (hi : -9223372036854775808 ≤ i ∧ i ≤ 9223372036854775807) (hn : 0 < n) (hn' : n ≤ 1000000000) {Q : Out → Heap → Prop}
    (hQ : Q (.ret (.int .i64 ((i % n).toNat : Nat))) H) : Call P 29 [.int .i64 i, .int .i64 n] H Q := by
  have hz : ¬ (n : Int) = 0 := by omega
  have hm : 0 ≤ i % n := Int.emod_nonneg _ hz
  have hlt : i % n < n := Int.emod_lt_of_pos _ (by omega)
  have ht : i.tmod n = if 0 ≤ i ∨ (n : Int) ∣ i then i % n else i % n - n := by rw [Int.tmod_eq_emod]; simp only [Int.natAbs_natCast]; split <;> simp
  have h2 : (if i.tmod n < 0 then i.tmod n + n else i.tmod n) = i % n := by
    rw [ht]; split <;> (split <;> omega)
  have e0 : (((i % n).toNat : Nat) : Int) = i % n := by omega
  rw [e0] at hQ
  have hb : -1000000000 ≤ i.tmod n ∧ i.tmod n ≤ 1000000000 := by rw [ht]; split <;> omega
  refine call_of hp rfl ?_
  simp -implicitDefEqProofs -dsimp (disch := omega) only [go_sem, hz]
  refine lif_dec (fun h1 => ?_) (fun h1 => ?_)
  · simp -implicitDefEqProofs -dsimp (disch := omega) only [go_sem, w64]
    rw [if_pos h1] at h2; rw [h2]; exact hQ
  · simp -implicitDefEqProofs -dsimp (disch := omega) only [go_sem, ]
    rw [if_neg h1] at h2; rw [h2]; exact hQ
end Go.Ab
