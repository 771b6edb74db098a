/- The first place from which on a bit is set; leading zeros. Conditions: none. -/
import Derived.Test.YtfgecfbknpifjaaC4
import Derived.Test.YtfgecfbknpifjaaK4
import Derived.Test.YtfgecfbknpifjaaPRu
set_option linter.all false
namespace Go.Ab

/-- The first y from x on, below w, with g; w if there is none. -/
structure IsNx (g : Nat → Bool) (w x y : Nat) : Prop where
  ge : x ≤ y
  le : y ≤ w
  no : ∀ z, x ≤ z → z < y → g z = false
  yes : y < w → g y = true
theorem IsNx.unique {g : Nat → Bool} {w x y y' : Nat} (h : IsNx g w x y) (h' : IsNx g w x y') : y = y' := by
  rcases Nat.lt_trichotomy y y' with k | k | k
  · have := h'.no y h.ge k; rw [h.yes (by have := h'.le; omega)] at this; cases this
  · exact k
  · have := h.no y' h'.ge k; rw [h'.yes (by have := h.le; omega)] at this; cases this
theorem isNx_ex (g : Nat → Bool) (w : Nat) : ∀ n x, x ≤ w → w - x = n → ∃ y, IsNx g w x y
  | 0, x, hx, hn => ⟨x, Nat.le_refl _, hx, fun z h1 h2 => by omega, fun h => by omega⟩
  | n + 1, x, hx, hn => by
    by_cases hg : g x = true
    · exact ⟨x, Nat.le_refl _, hx, fun z h1 h2 => by omega, fun _ => hg⟩
    · obtain ⟨y, h⟩ := isNx_ex g w n (x + 1) (by omega) (by omega)
      refine ⟨y, by have := h.ge; omega, h.le, fun z h1 h2 => ?_, h.yes⟩
      by_cases e : z = x
      · subst e; simpa using hg
      · exact h.no z (by omega) h2

/-- How many bits a number has. -/
def bl (n : Nat) : Nat := if n = 0 then 0 else n.log2 + 1
theorem bl_lt (n : Nat) : n < 2 ^ bl n := by
  unfold bl; split
  · subst_vars; decide
  · exact Nat.lt_log2_self
theorem bl_ge {n k : Nat} (h : 2 ^ k ≤ n) : k < bl n := by
  rcases Nat.lt_or_ge k (bl n) with h1 | h1
  · exact h1
  · have := bl_lt n
    have := Nat.pow_le_pow_right (n := 2) (by omega) h1
    omega
theorem bl_le {n k : Nat} (h : n < 2 ^ k) : bl n ≤ k := by
  unfold bl; split
  · omega
  · rename_i h0; exact (Nat.log2_lt h0).2 h
theorem bl_top {n : Nat} (h : n ≠ 0) : 2 ^ (bl n - 1) ≤ n := by
  unfold bl; rw [if_neg h, Nat.add_sub_cancel]; exact Nat.log2_self_le h
theorem bl_div {n k : Nat} (h : 2 ^ k ≤ n) : bl (n / 2 ^ k) + k = bl n := by
  have hp : 0 < 2 ^ k := Nat.two_pow_pos k
  have h0 : n ≠ 0 := by omega
  have h1 : 1 ≤ n / 2 ^ k := (Nat.le_div_iff_mul_le hp).2 (by omega)
  have h2 := bl_lt n
  have h3 := bl_top h0
  have hk := bl_ge h
  refine Nat.le_antisymm ?_ ?_
  · have : bl (n / 2 ^ k) ≤ bl n - k := bl_le ((Nat.div_lt_iff_lt_mul hp).2 (by rw [← Nat.pow_add, Nat.sub_add_cancel (by omega)]; exact h2))
    omega
  · have : bl n - 1 - k < bl (n / 2 ^ k) := bl_ge ((Nat.le_div_iff_mul_le hp).2 (by rw [← Nat.pow_add, Nat.sub_add_cancel (by omega)]; exact h3))
    omega
theorem tab_bl : ∀ b, b < 256 → math_bits_Len64_s0[b]? = some (UInt8.ofNat (bl b)) := by decide +kernel
theorem bl8 {b : Nat} (h : b < 256) : bl b ≤ 8 := bl_le h
section
variable {P : Prog} {H : Heap} {R : List As} {Q : Out → Heap → Prop}
def strI (s : ByteArray) (i : Option V) (H : Heap) : Option (V × Heap) := match i with
  | some (.int _ j) => if 0 ≤ j then (s[j.toNat]?).map fun b => (.int .u8 b.toNat, H) else none
  | _ => none
theorem step_strI (fr : Fr) (H : Heap) (s : ByteArray) (i : Opd) : step fr H (.idx none 0 none (.c (.str s)) i) = strI s (opd fr i) H := by
  rw [step_idx, show opd fr (.c (.str s)) = some (.str s) from rfl]
  generalize opd fr i = q
  cases q with
  | none => rfl
  | some v => cases v <;> rfl
theorem shr_32 {m : Nat} (h : m < 18446744073709551616) : shr .u64 (m : Int) 32 = ((m / 4294967296 : Nat) : Int) := shr64 (i := 32) h
theorem shr_16 {m : Nat} (h : m < 18446744073709551616) : shr .u64 (m : Int) 16 = ((m / 65536 : Nat) : Int) := shr64 (i := 16) h
theorem shr_8 {m : Nat} (h : m < 18446744073709551616) : shr .u64 (m : Int) 8 = ((m / 256 : Nat) : Int) := shr64 (i := 8) h
theorem tab_rd (m : Nat) (h : m < 256) : math_bits_Len64_s0[Int.toNat (m : Int)]? = some (UInt8.ofNat (bl m)) := tab_bl m h
theorem u8_bl {m : Nat} (h : m < 256) : (UInt8.ofNat (bl m)).toNat = bl m := by
  have := bl8 h; simp; omega
theorem strI_tab (H : Heap) (m : Nat) (h : m < 256) : strI math_bits_Len64_s0 (some (.int .u8 (m : Nat))) H = some (.int .u8 (bl m : Nat), H) := by
  unfold strI
  dsimp only
  rw [if_pos (by omega), tab_rd m h, Option.map_some, u8_bl h]
theorem len64_ct (hp : HasRu P) {n : Nat} (hn : n < 18446744073709551616) (hQ : Q (.ret (.int .i64 (bl n : Nat))) H) : Call P 112 [.int .u64 n] H Q := by
  refine call_of hp.h_math_bits_Len64 rfl ?_
  have hb : bl n ≤ 64 := bl_le hn
  by_cases a : 4294967296 ≤ n
  · have e1 := bl_div (n := n) (k := 32) a
    generalize hm : n / 2 ^ 32 = m at e1
    have hm : n / 4294967296 = m := hm
    have hb : m < 4294967296 := by omega
    by_cases b : 65536 ≤ m
    · have e2 := bl_div (n := m) (k := 16) b
      generalize hm2 : m / 2 ^ 16 = m2 at e2
      have hm2 : m / 65536 = m2 := hm2
      by_cases c : 256 ≤ m2
      · have e3 := bl_div (n := m2) (k := 8) c
        generalize hm3 : m2 / 2 ^ 8 = m3 at e3
        have hm3 : m2 / 256 = m3 := hm3
        have ee : 56 + ((bl m3 : Nat) : Int) = ((bl n : Nat) : Int) := by omega
        simp -implicitDefEqProofs -dsimp (disch := omega) only [go_sem, dec_t, dec_f, shr_32, hm, shr_16, hm2, shr_8, hm3, w64, wu8, step_strI, strI_tab, ee]
        exact hQ
      · have ee : 48 + ((bl m2 : Nat) : Int) = ((bl n : Nat) : Int) := by omega
        simp -implicitDefEqProofs -dsimp (disch := omega) only [go_sem, dec_t, dec_f, shr_32, hm, shr_16, hm2, shr_8, w64, wu8, step_strI, strI_tab, ee]
        exact hQ
    · by_cases c : 256 ≤ m
      · have e3 := bl_div (n := m) (k := 8) c
        generalize hm3 : m / 2 ^ 8 = m3 at e3
        have hm3 : m / 256 = m3 := hm3
        have ee : 40 + ((bl m3 : Nat) : Int) = ((bl n : Nat) : Int) := by omega
        simp -implicitDefEqProofs -dsimp (disch := omega) only [go_sem, dec_t, dec_f, shr_32, hm, shr_8, hm3, w64, wu8, step_strI, strI_tab, ee]
        exact hQ
      · have ee : 32 + ((bl m : Nat) : Int) = ((bl n : Nat) : Int) := by omega
        simp -implicitDefEqProofs -dsimp (disch := omega) only [go_sem, dec_t, dec_f, shr_32, hm, shr_8, w64, wu8, step_strI, strI_tab, ee]
        exact hQ
  · by_cases b : 65536 ≤ n
    · have e2 := bl_div (n := n) (k := 16) b
      generalize hm2 : n / 2 ^ 16 = m2 at e2
      have hm2 : n / 65536 = m2 := hm2
      by_cases c : 256 ≤ m2
      · have e3 := bl_div (n := m2) (k := 8) c
        generalize hm3 : m2 / 2 ^ 8 = m3 at e3
        have hm3 : m2 / 256 = m3 := hm3
        have ee : 24 + ((bl m3 : Nat) : Int) = ((bl n : Nat) : Int) := by omega
        simp -implicitDefEqProofs -dsimp (disch := omega) only [go_sem, dec_t, dec_f, shr_16, hm2, shr_8, hm3, w64, wu8, step_strI, strI_tab, ee]
        exact hQ
      · have ee : 16 + ((bl m2 : Nat) : Int) = ((bl n : Nat) : Int) := by omega
        simp -implicitDefEqProofs -dsimp (disch := omega) only [go_sem, dec_t, dec_f, shr_16, hm2, shr_8, w64, wu8, step_strI, strI_tab, ee]
        exact hQ
    · by_cases c : 256 ≤ n
      · have e3 := bl_div (n := n) (k := 8) c
        generalize hm3 : n / 2 ^ 8 = m3 at e3
        have hm3 : n / 256 = m3 := hm3
        have ee : 8 + ((bl m3 : Nat) : Int) = ((bl n : Nat) : Int) := by omega
        simp -implicitDefEqProofs -dsimp (disch := omega) only [go_sem, dec_t, dec_f, shr_8, hm3, w64, wu8, step_strI, strI_tab, ee]
        exact hQ
      · have ee : 0 + ((bl n : Nat) : Int) = ((bl n : Nat) : Int) := by omega
        simp -implicitDefEqProofs -dsimp (disch := omega) only [go_sem, dec_t, dec_f, w64, wu8, step_strI, strI_tab, ee]
        exact hQ
theorem lz_ct (hp : HasRu P) {n : Nat} (hn : n < 18446744073709551616) (hQ : Q (.ret (.int .i64 (64 - bl n : Nat))) H) : Call P 113 [.int .u64 n] H Q := by
  have hb : bl n ≤ 64 := bl_le hn
  refine call_of hp.h_math_bits_LeadingZeros64 rfl ?_
  simp -implicitDefEqProofs -dsimp (disch := omega) only [go_sem, dec_t, dec_f, ]
  refine len64_ct hp hn ?_
  have e : (64 : Int) - ((bl n : Nat) : Int) = ((64 - bl n : Nat) : Int) := by omega
  simp -implicitDefEqProofs -dsimp (disch := omega) only [go_sem, dec_t, dec_f, e, w64]
  exact hQ
/-- The first set pixel of a word. -/
theorem lz_nx {n : Nat} (hn : n < 18446744073709551616) : IsNx (wb n) 64 0 (64 - bl n) := by
  have hb : bl n ≤ 64 := bl_le hn
  refine ⟨by omega, by omega, fun z _ hz => ?_, fun h => ?_⟩
  · unfold wb
    refine Nat.testBit_lt_two_pow (Nat.lt_of_lt_of_le (bl_lt n) (Nat.pow_le_pow_right (by omega) (by omega)))
  · unfold wb
    have h0 : n ≠ 0 := by rintro rfl; simp [bl] at h
    have h1 := bl_top h0
    have h2 := bl_lt n
    rw [show 63 - (64 - bl n) = bl n - 1 by omega, Nat.testBit_eq_decide_div_mod_eq]
    have hp : 0 < 2 ^ (bl n - 1) := Nat.two_pow_pos _
    have h3 : 2 ^ bl n = 2 * 2 ^ (bl n - 1) := by rw [← Nat.pow_succ', Nat.succ_eq_add_one, Nat.sub_add_cancel (by unfold bl; rw [if_neg h0]; omega)]
    have h4 : n / 2 ^ (bl n - 1) = 1 := by
      refine Nat.le_antisymm ?_ ((Nat.le_div_iff_mul_le hp).2 (by omega))
      have := (Nat.div_lt_iff_lt_mul hp (x := n) (y := 2)).2 (by omega)
      omega
    rw [h4]; rfl
end
end Go.Ab
