/- What is read as a header is the header of what was read; a header is read again. Conditions: none; plain laws. -/
import Derived.Test.YtnpdnkmnnmmagaaSl
set_option linter.all false
namespace Go.Ab
theorem told_zero {bs : List Nat} {a : Nat} : ∀ {w : Nat}, toldN bs a w = 0 → ∀ i, i < w → bitAt bs (a + i) = false
  | w + 1, h, i, hi => by
    rw [toldN] at h
    by_cases e : i = w
    · subst e
      cases hb : bitAt bs (a + i) with
      | false => rfl
      | true => rw [hb] at h; simp at h
    · exact told_zero (w := w) (by omega) i (by omega)
theorem zero_told {bs : List Nat} {a : Nat} : ∀ {w : Nat}, (∀ i, i < w → bitAt bs (a + i) = false) → toldN bs a w = 0
  | 0, _ => rfl
  | w + 1, h => by rw [toldN, zero_told fun i hi => h i (by omega), h w (by omega)]; rfl
theorem aln_inv {bs : List Nat} {a a' : Nat} (h : alnR bs a = .ok a') : a' = a + (8 - a % 8) % 8 ∧ ∀ i, i < (8 - a % 8) % 8 → bitAt bs (a + i) = false := by
  unfold alnR at h
  split at h
  · cases h
  · split at h
    · cases h
    · rename_i h1 h2
      cases h
      have h2 : (rAlign bs a).1 = 0 := Classical.not_not.1 h2
      unfold rAlign at h2 ⊢
      split at h2
      · cases h2
      · rename_i h3
        rw [if_neg h3]
        exact ⟨rfl, told_zero (Classical.not_not.1 h3)⟩
def withData (s : Sg) (d : List Nat) : Sg := ⟨s.num, s.kind, s.page, s.refs, s.keep, s.stay, d⟩
theorem head_inv {bs : List Nat} (hs : ∀ b ∈ bs, b < 256) {s : Sg} {n a : Nat} (h : headR bs = .ok (s, n, a)) : s.data = [] ∧ n < 67108865 ∧ (∀ d : List Nat, d.length = n → May (withData s d) ∧ ∃ q, bs = hdr (withData s d) ++ q ∧ a = 8 * (hdr (withData s d)).length) := by
  unfold headR at h
  obtain ⟨⟨num, a1⟩, h1, h⟩ := exb_inv h
  obtain ⟨⟨kind, a2⟩, h2, h⟩ := exb_inv h
  dsimp only at h1 h2 h
  split at h
  case isFalse => cases h
  rename_i ik
  obtain ⟨⟨page, a3⟩, h3, h⟩ := exb_inv h
  dsimp only at h3 h
  split at h
  case isFalse => cases h
  rename_i ip
  obtain ⟨⟨cnt, a4⟩, h4, h⟩ := exb_inv h
  dsimp only at h4 h
  split at h
  case isTrue => cases h
  rename_i ir
  obtain ⟨⟨L, a5⟩, h5, h⟩ := exb_inv h
  obtain ⟨⟨K, a6⟩, h6, h⟩ := exb_inv h
  obtain ⟨⟨st, a7⟩, h7, h⟩ := exb_inv h
  dsimp only at h5 h6 h7 h
  split at h
  case isTrue => cases h
  rename_i ist
  obtain ⟨a8, h8, h⟩ := exb_inv h
  obtain ⟨⟨m, a9⟩, h9, h⟩ := exb_inv h
  dsimp only at h9 h
  split at h
  case isTrue => cases h
  rename_i idt
  cases h
  obtain ⟨l1, q1, e1, f1⟩ := num_inv hs (p := []) (q := bs) rfl h1
  rw [List.nil_append] at e1 f1
  subst f1
  obtain ⟨l2, q2, e2, f2⟩ := tak_inv hs e1 h2
  subst f2
  obtain ⟨l3, q3, e3, f3⟩ := num_inv hs e2 h3
  subst f3
  obtain ⟨l4, q4, e4, f4⟩ := num_inv hs e3 h4
  subst f4
  obtain ⟨l5, i5, q5, e5, f5⟩ := refs_inv hs e4 h5
  subst f5
  obtain ⟨l6, f6, b6⟩ := keep_inv h6
  subst f6
  obtain ⟨b7, f7, r7⟩ := flg_inv h7
  subst f7
  obtain ⟨f8, b8⟩ := aln_inv h8
  obtain ⟨v1, v2⟩ := numR_ok h9
  obtain ⟨v3, v4, _⟩ := rVar_inv v1
  generalize hp : groups num ++ [kind] ++ groups page ++ groups cnt ++ (L.flatMap fun n => groups n.toNat) = p at *
  have hlen : (K ++ [st]).length = cnt + 1 := by rw [List.length_append, List.length_singleton, l6]
  have hpk := pack_length (K ++ [st])
  rw [hlen] at hpk
  have f8' : a8 = 8 * p.length + 8 * (pack (K ++ [st])).length := by omega
  obtain ⟨q8, e8⟩ := bits_inv hs (p := p) (q := q5) e5 (l := K ++ [st]) (fun i hi => by
      rw [hlen] at hi
      by_cases hik : i < K.length
      · rw [List.getElem_append_left hik]; exact b6 i hik
      · have : i = K.length := by omega
        subst this
        rw [List.getElem_append_right (by omega)]
        simp only [Nat.sub_self, List.getElem_cons_zero]
        rw [b7, l6]) (fun i hi1 hi2 => by
      rw [hlen] at hi1
      have := b8 (i - (cnt + 1)) (by omega)
      rw [← this]; congr 1; omega) (by omega)
  rw [show a8 = 8 * (p ++ pack (K ++ [st])).length by rw [List.length_append, f8']; omega] at h9
  obtain ⟨l9, q9, e9, f9⟩ := num_inv hs e8 h9
  refine ⟨rfl, l9, fun d hd => ⟨⟨?_, ?_, ik, ip, ?_, ?_, ?_, ?_, ?_, i5⟩, q9, ?_, ?_⟩⟩
  · show (0 : Int) ≤ num; omega
  · show (num : Int) < 32768; omega
  · show K.length = L.length; omega
  · intro k
    exact Classical.not_not.1 fun k2 => ir ⟨by have : 0 < L.length := k; omega, k2⟩
  · intro k
    exact Classical.not_not.1 fun k2 => ist ⟨k, k2⟩
  · intro k
    have k : 0 < d.length := k
    exact Classical.not_not.1 fun k2 => idt ⟨by omega, k2⟩
  · show d.length ≤ 67108864; omega
  · rw [e9]
    unfold hdr hdA withData
    dsimp only
    rw [Int.toNat_natCast, Int.toNat_natCast, Int.toNat_natCast, l5, hd, hp]
  · rw [f9]
    unfold hdr hdA withData
    dsimp only
    rw [Int.toNat_natCast, Int.toNat_natCast, Int.toNat_natCast, l5, hd, hp]
end Go.Ab
