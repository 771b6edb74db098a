/- What is remembered leads back to what was. Conditions: none. -/
import Derived.Test.YtnmjcajalnidmaaVd
set_option linter.all false
namespace Go.Ab
abbrev Ky := List (Nat × Nat × (Nat → Nat → Bool))
/-- Steps, the last one first, lead back from pages through all that was. -/
def Chain : List St → Ky → List Ky → Prop
  | [], _, _ => True
  | _ :: _, _, [] => False
  | s :: ss, K, b :: bs => s.may K.length ∧ s.back K = b ∧ Chain ss b bs
theorem Chain.take : ∀ {ss : List St} {K : Ky} {bs : List Ky} (n : Nat), Chain ss K bs → Chain (ss.take n) K bs
  | [], _, _, n, _ => by cases n <;> exact trivial
  | _ :: _, _, _, 0, _ => trivial
  | _ :: _, _, [], n + 1, h => h.elim
  | s :: ss, K, b :: bs, n + 1, h => ⟨h.1, h.2.1, Chain.take n h.2.2⟩
theorem chain_push {SL : List St} {S : St} {K K' : Ky} {bs : List Ky} (h : Chain SL.reverse K bs) (hm : S.may K'.length) (hb : S.back K' = K) : Chain (push SL S).reverse K' (K :: bs) := by
  unfold push
  rw [List.reverse_append]
  refine ⟨hm, hb, ?_⟩
  split
  · rw [List.reverse_drop]; exact h.take _
  · exact h
theorem push_min {SL : List St} {S : St} {n : Nat} (h : SL.length = min n 64) : (push SL S).length = min (n + 1) 64 := by
  unfold push; split <;> simp <;> omega
/-- The last step, taken back. -/
theorem chain_pop {SL : List St} {S : St} {K : Ky} {b : Ky} {bs : List Ky} (h : Chain (SL ++ [S]).reverse K (b :: bs)) : S.may K.length ∧ S.back K = b ∧ Chain SL.reverse b bs := by
  rw [List.reverse_append] at h
  exact h
theorem back_new {cd cn : Nat} {K : Ky} {k : Nat × Nat × (Nat → Nat → Bool)} : (St.new cd cn K.length).back (K ++ [k]) = K ∧ (St.new cd cn K.length).may (K ++ [k]).length := by
  refine ⟨by simp [St.back], ?_⟩
  show K.length < _
  simp
theorem back_put {cb cd cp i : Nat} {v : V} {PL : List MR} (hi : i < PL.length) (p : Nat → Nat → Bool) :
    (St.put cb cd cp v PL[i].w PL[i].h PL[i].p i).back ((PL.set i ⟨PL[i].m, PL[i].w, PL[i].h, p⟩).map MR.k) = PL.map MR.k ∧ (St.put cb cd cp v PL[i].w PL[i].h PL[i].p i).may ((PL.set i ⟨PL[i].m, PL[i].w, PL[i].h, p⟩).map MR.k).length := by
  constructor
  · show ((PL.set i ⟨PL[i].m, PL[i].w, PL[i].h, p⟩).map MR.k).set i (PL[i].w, PL[i].h, PL[i].p) = _
    rw [List.map_set, List.set_set]
    exact lset_self (by rw [List.getElem?_map, List.getElem?_eq_getElem hi]; rfl)
  · show i < _
    simpa using hi
end Go.Ab
