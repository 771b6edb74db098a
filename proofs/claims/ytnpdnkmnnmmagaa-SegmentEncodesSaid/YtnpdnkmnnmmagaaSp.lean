/- A header in its place is read again; cut it ends too early. Conditions: none; plain laws. -/
import Derived.Test.YtnpdnkmnnmmagaaSh
import Derived.Test.YtnpdnkmnnmmagaaSn
set_option linter.all false
namespace Go.Ab
theorem dec_fwd {s : Sg} (hm : May s) {x y : List Nat} (hy : ∀ b ∈ y, b < 256) : decR (x ++ hdr s ++ y) (x.length : Nat) = .ok (withData s [], s.data.length, x.length + (hdr s).length) := by
  have hl := hdr_len hm
  unfold decR
  rw [if_neg (by simp only [List.length_append]; omega), Int.toNat_natCast, List.append_assoc, List.drop_left' rfl]
  have e : (hdr s ++ y).take 131136 = hdr s ++ y.take (131136 - (hdr s).length) := by rw [List.take_append, List.take_of_length_le (by omega)]
  rw [e, head_fwd hm fun b hb => hy b (List.mem_of_mem_take hb), exb_ok]
  dsimp only
  congr 3
  rw [List.length_append]; omega
theorem dec_cut {s : Sg} (hm : May s) (x : List Nat) {k : Nat} (hk : k < (hdr s).length) : decR (x ++ (hdr s).take k) (x.length : Nat) = .error 163 := by
  have hl := hdr_len hm
  unfold decR
  rw [if_neg (by simp only [List.length_append]; omega), Int.toNat_natCast, List.drop_left' rfl, List.take_of_length_le (by rw [List.length_take]; omega)]
  have h := head_fwd hm (q := []) (fun _ h => nomatch h)
  rw [List.append_nil] at h
  rw [head_cut (by omega) h (by dsimp only; omega), exb_er]
theorem dec_inv {f : List Nat} (hf : ∀ b ∈ f, b < 256) {p : Int} {s : Sg} {n a : Nat} (h : decR f p = .ok (s, n, a)) : 0 ≤ p ∧ p ≤ f.length ∧ n < 67108865 ∧ s.data = [] ∧ ∀ d : List Nat, d.length = n → May (withData s d) ∧ a = p.toNat + (hdr (withData s d)).length ∧ a ≤ f.length ∧ (f.drop p.toNat).take (hdr (withData s d)).length = hdr (withData s d) := by
  unfold decR at h
  split at h
  · cases h
  · rename_i hp
    obtain ⟨⟨s1, n1, a1⟩, h1, h2⟩ := exb_inv h
    cases h2
    have hb : ∀ b ∈ (f.drop p.toNat).take 131136, b < 256 := fun b hb => hf b (List.mem_of_mem_drop (List.mem_of_mem_take hb))
    obtain ⟨e1, e2, e3⟩ := head_inv hb h1
    refine ⟨by omega, by omega, e2, e1, fun d hd => ?_⟩
    obtain ⟨m1, q, e4, e5⟩ := e3 d hd
    have hl := congrArg List.length e4
    rw [List.length_append, List.length_take, List.length_drop] at hl
    refine ⟨m1, ?_, ?_, ?_⟩
    · dsimp only
      rw [e5, List.length_take, List.length_drop]; omega
    · dsimp only
      rw [e5, List.length_take, List.length_drop]; omega
    · have := congrArg (List.take (hdr (withData s1 d)).length) e4
      rw [List.take_take, List.take_left' rfl] at this
      rwa [Nat.min_eq_left (by omega)] at this
theorem exb_err {α β : Type} {x : Except Int α} {f : α → Except Int β} {e : Int} (h : exb x f = .error e) : x = .error e ∨ ∃ v, x = .ok v ∧ f v = .error e := by
  cases x with
  | error e' => left; cases h; rfl
  | ok v => right; exact ⟨v, rfl, h⟩
def Bad (e : Int) : Prop := e = 161 ∨ e = 163
theorem numR_bad {bs : List Nat} {bd a : Nat} {e : Int} (h : numR bs bd a = .error e) : Bad e := by
  unfold numR at h
  split at h
  · cases h; exact Or.inr rfl
  · split at h
    · cases h; exact Or.inl rfl
    · split at h
      · cases h; exact Or.inl rfl
      · cases h
theorem takR_bad {bs : List Nat} {a : Nat} {k e : Int} (h : takR bs a k = .error e) : Bad e := by
  unfold takR at h
  split at h
  · cases h; exact Or.inr rfl
  · split at h
    · cases h; exact Or.inl rfl
    · cases h
theorem alnR_bad {bs : List Nat} {a : Nat} {e : Int} (h : alnR bs a = .error e) : Bad e := by
  unfold alnR at h
  split at h
  · cases h; exact Or.inr rfl
  · split at h
    · cases h; exact Or.inl rfl
    · cases h
theorem flgR_bad {bs : List Nat} {a : Nat} {e : Int} (h : flgR bs a = .error e) : Bad e := by
  rcases exb_err h with h | ⟨v, _, h⟩
  · exact takR_bad h
  · cases h
theorem refsR_bad {bs : List Nat} {num : Nat} : ∀ {k : Nat} {ah : Int} {a : Nat} {e : Int}, refsR bs num k ah a = .error e → Bad e
  | 0, _, _, _, h => by cases h
  | k + 1, ah, a, e, h => by
    unfold refsR at h
    rcases exb_err h with h | ⟨v, _, h⟩
    · exact numR_bad h
    · split at h
      · cases h; exact Or.inl rfl
      · rcases exb_err h with h | ⟨v, _, h⟩
        · exact refsR_bad h
        · cases h
theorem keepR_bad {bs : List Nat} : ∀ {k : Nat} {a : Nat} {e : Int}, keepR bs k a = .error e → Bad e
  | 0, _, _, h => by cases h
  | k + 1, a, e, h => by
    unfold keepR at h
    rcases exb_err h with h | ⟨v, _, h⟩
    · exact flgR_bad h
    · rcases exb_err h with h | ⟨v, _, h⟩
      · exact keepR_bad h
      · cases h
theorem headR_bad {bs : List Nat} {e : Int} (h : headR bs = .error e) : Bad e := by
  unfold headR at h
  rcases exb_err h with h | ⟨p, _, h⟩
  · exact numR_bad h
  rcases exb_err h with h | ⟨q, _, h⟩
  · exact takR_bad h
  split at h
  case isFalse => cases h; exact Or.inl rfl
  rcases exb_err h with h | ⟨g, _, h⟩
  · exact numR_bad h
  split at h
  case isFalse => cases h; exact Or.inl rfl
  rcases exb_err h with h | ⟨c, _, h⟩
  · exact numR_bad h
  split at h
  case isTrue => cases h; exact Or.inl rfl
  rcases exb_err h with h | ⟨l, _, h⟩
  · exact refsR_bad h
  rcases exb_err h with h | ⟨k, _, h⟩
  · exact keepR_bad h
  rcases exb_err h with h | ⟨st, _, h⟩
  · exact flgR_bad h
  split at h
  case isTrue => cases h; exact Or.inl rfl
  rcases exb_err h with h | ⟨a, _, h⟩
  · exact alnR_bad h
  rcases exb_err h with h | ⟨n, _, h⟩
  · exact numR_bad h
  split at h
  case isTrue => cases h; exact Or.inl rfl
  cases h
theorem decR_bad {f : List Nat} {p e : Int} (h : decR f p = .error e) : Bad e := by
  unfold decR at h
  split at h
  · cases h; exact Or.inr rfl
  · rcases exb_err h with h | ⟨v, _, h⟩
    · exact headR_bad h
    · cases h
end Go.Ab
