/- Lists of numbers among a law's data. Conditions: none. -/
import Derived.Test.YtdkgdneiilnppaaBz
set_option linter.all false
namespace Go.Ab

theorem split_ints {k : IntKind} {H : Heap} : ∀ {L : List V} {zs : List Int}, Split (Is H (.int k)) L zs → L = zs.map (V.int k) ∧ ∀ z ∈ zs, inK k z
  | _, [], h => ⟨h, fun _ h => by cases h⟩
  | _, z :: zs, ⟨a, b, e, ⟨h1, h2⟩, h3⟩ => by
    obtain ⟨h4, h5⟩ := split_ints h3
    refine ⟨by rw [e, h1, h4]; rfl, fun y hy => ?_⟩
    rcases List.mem_cons.1 hy with rfl | hy
    · exact h2
    · exact h5 y hy
theorem Is.ints {k : IntKind} {b : Nat} {H : Heap} {cs : List V} {zs : List Int} (h : Is H (.sl b (.int k)) cs zs) : ∃ v, cs = [v] ∧ Arr H v 1 zs.length (zs.map (V.int k)) ∧ (∀ z ∈ zs, inK k z) ∧ zs.length * b ≤ 140737488351232 := by
  obtain ⟨v, L, h1, h2, h3, h4⟩ := h
  obtain ⟨h5, h6⟩ := split_ints h3
  exact ⟨v, h1, by rw [← h5]; exact h2, h6, h4⟩
theorem nats_of {k : IntKind} (hk : k.min = 0) : ∀ {zs : List Int}, (∀ z ∈ zs, inK k z) → ∃ ns : List Nat, zs = ns.map (fun (n : Nat) => (n : Int)) ∧ ∀ n ∈ ns, ((n : Nat) : Int) ≤ k.max
  | [], _ => ⟨[], rfl, fun _ h => by cases h⟩
  | z :: zs, h => by
    obtain ⟨ns, h1, h2⟩ := nats_of hk fun y hy => h y (List.mem_cons_of_mem _ hy)
    have hz := h z List.mem_cons_self
    unfold inK at hz
    rw [hk] at hz
    refine ⟨z.toNat :: ns, ?_, fun n hn => ?_⟩
    · rw [List.map_cons, ← h1, Int.toNat_of_nonneg hz.1]
    · rcases List.mem_cons.1 hn with rfl | hn
      · rw [Int.toNat_of_nonneg hz.1]; exact hz.2
      · exact h2 n hn
theorem Is.nats {k : IntKind} {b : Nat} {H : Heap} {cs : List V} {zs : List Int} (hk : k.min = 0) (h : Is H (.sl b (.int k)) cs zs) :
    ∃ (v : V) (ns : List Nat), cs = [v] ∧ Arr H v 1 ns.length (ns.map fun (n : Nat) => .int k n) ∧ (∀ n ∈ ns, ((n : Nat) : Int) ≤ k.max) ∧ ns.length * b ≤ 140737488351232 := by
  obtain ⟨v, h1, h2, h3, h4⟩ := Is.ints h
  obtain ⟨ns, rfl, h5⟩ := nats_of hk h3
  rw [List.length_map] at h2 h4
  rw [List.map_map] at h2
  exact ⟨v, ns, h1, h2, h5, h4⟩
end Go.Ab
