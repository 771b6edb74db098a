/- A header's bytes. Conditions: none; plain laws. -/
import Derived.Test.YtnpdnkmnnmmagaaSb
import Derived.Test.YtnpdnkmnnmmagaaBp
set_option linter.all false
namespace Go.Ab
def hdA (s : Sg) : List Nat := groups s.num.toNat ++ [s.kind.toNat] ++ groups s.page.toNat ++ groups s.refs.length ++ s.refs.flatMap fun n => groups n.toNat
def hdr (s : Sg) : List Nat := hdA s ++ pack (s.keep ++ [s.stay]) ++ groups s.data.length
theorem bytesBits_app (a b : List Nat) : bytesBits (a ++ b) = bytesBits a ++ bytesBits b := by simp [bytesBits]
theorem bytesBits_one (a : Nat) : bytesBits [a] = bitsOf a 8 := by simp [bytesBits]
theorem bitAt_bytes {bs : List Nat} (h : ∀ b ∈ bs, b < 256) (k : Nat) : bitAt bs k = (bytesBits bs).getD k false := by
  have := bitAt_pack (bytesBits bs) k
  rwa [pack_bytes h] at this
theorem wA_get (l : List Bool) (k : Nat) : (wAlign l).getD k false = l.getD k false := by
  unfold wAlign
  simp only [List.getD_eq_getElem?_getD, List.getElem?_append]
  split
  · rfl
  · rename_i h
    rw [List.getElem?_eq_none (l := l) (by omega), List.getElem?_replicate]
    split <;> rfl
theorem wA_at {l : List Bool} {k : Nat} (h : k < (wAlign l).length) : (wAlign l)[k] = l.getD k false := by
  rw [← wA_get, List.getD_eq_getElem?_getD, List.getElem?_eq_getElem h, Option.getD_some]
theorem bytes_pack (l : List Bool) : bytesBits (pack l) = wAlign l := by
  have hl : (bytesBits (pack l)).length = (wAlign l).length := by rw [bytesBits_length, pack_length, wAlign_length]; omega
  refine List.ext_getElem hl fun k h1 h2 => ?_
  have e1 : (bytesBits (pack l)).getD k false = l.getD k false := by rw [← bitAt_bytes (pack_lt l), bitAt_pack]
  rw [List.getD_eq_getElem?_getD, List.getElem?_eq_getElem h1, Option.getD_some] at e1
  rw [e1, wA_at h2]
theorem pack_wAlign (l : List Bool) : pack (wAlign l) = pack l := pack_align
theorem wAlign_bytes (a : List Nat) (l : List Bool) : wAlign (bytesBits a ++ l) = bytesBits a ++ wAlign l := by
  unfold wAlign
  rw [List.length_append, bytesBits_length, show (8 * a.length + l.length) % 8 = l.length % 8 by omega, List.append_assoc]
theorem pack_app {a : List Nat} (h : ∀ b ∈ a, b < 256) (l : List Bool) : pack (bytesBits a ++ l) = a ++ pack l := by
  rw [← pack_wAlign, wAlign_bytes, ← bytes_pack, ← bytesBits_app, pack_bytes]
  intro b hb
  rcases List.mem_append.1 hb with hb | hb
  · exact h b hb
  · exact pack_lt l b hb
theorem pack_hdr {a b : List Nat} (ha : ∀ x ∈ a, x < 256) (hb : ∀ x ∈ b, x < 256) (l : List Bool) : pack (wAlign (bytesBits a ++ l) ++ bytesBits b) = a ++ pack l ++ b := by
  rw [wAlign_bytes, ← bytes_pack, ← bytesBits_app, ← bytesBits_app, pack_bytes]
  intro x hx
  rcases List.mem_append.1 hx with hx | hx
  · rcases List.mem_append.1 hx with hx | hx
    · exact ha x hx
    · exact pack_lt l x hx
  · exact hb x hx
theorem hdA_lt {s : Sg} (hk : s.kind.toNat < 256) : ∀ x ∈ hdA s, x < 256 := by
  intro x hx
  unfold hdA at hx
  simp only [List.mem_append, List.mem_singleton, List.mem_flatMap] at hx
  rcases hx with (((hx | rfl) | hx) | hx) | ⟨n, _, hx⟩
  · exact groups_lt _ x hx
  · exact hk
  · exact groups_lt _ x hx
  · exact groups_lt _ x hx
  · exact groups_lt _ x hx
theorem hdr_lt {s : Sg} (hk : s.kind.toNat < 256) : ∀ x ∈ hdr s, x < 256 := by
  intro x hx
  unfold hdr at hx
  rcases List.mem_append.1 hx with hx | hx
  · rcases List.mem_append.1 hx with hx | hx
    · exact hdA_lt hk x hx
    · exact pack_lt _ x hx
  · exact groups_lt _ x hx
theorem hdr_pack {s : Sg} (hk : s.kind.toNat < 256) : pack (wAlign (bytesBits (hdA s) ++ s.keep ++ [s.stay]) ++ bytesBits (groups s.data.length)) = hdr s := by
  rw [List.append_assoc, pack_hdr (hdA_lt hk) (groups_lt _)]; rfl
theorem incr_all {b : Int} : ∀ {l : List Int} {a : Int}, incrF b a l = true → ∀ n ∈ l, a < n ∧ n < b
  | m :: l, a, h, n, hn => by
    simp only [incrF, Bool.and_eq_true, decide_eq_true_eq] at h
    rcases List.mem_cons.1 hn with rfl | hn
    · exact h.1
    · have := incr_all h.2 n hn; omega
theorem incr_len {b : Int} : ∀ {l : List Int} {a : Int}, incrF b a l = true → l ≠ [] → a + l.length < b
  | [m], a, h, _ => by
    simp only [incrF, Bool.and_eq_true, decide_eq_true_eq] at h
    simp only [List.length_singleton]; omega
  | m :: k :: l, a, h, _ => by
    have h2 := h
    simp only [incrF, Bool.and_eq_true, decide_eq_true_eq] at h2
    have := incr_len (b := b) (l := k :: l) (a := m) (by simp [incrF, h2]) (by simp)
    simp only [List.length_cons] at this ⊢
    omega
theorem may_len {s : Sg} (h : May s) : (s.refs.length : Int) ≤ s.num := by
  by_cases e : s.refs = []
  · rw [e]; have := h.n0; simpa using this
  · have := incr_len h.incr e; omega
end Go.Ab
