/- Bits, as lists of them: bytes that they make, numbers that they make. Plain laws; no program. -/
import Derived.Test.YtdkgdneiilnppaaBc
set_option linter.all false
namespace Go.Ab

def B (l : List Bool) (j : Nat) : Nat := (l.getD j false).toNat
/-- The byte of eight bits. -/
def byteAt (l : List Bool) (i : Nat) : Nat :=
  128 * B l (8 * i) + 64 * B l (8 * i + 1) + 32 * B l (8 * i + 2) + 16 * B l (8 * i + 3) + 8 * B l (8 * i + 4) + 4 * B l (8 * i + 5) + 2 * B l (8 * i + 6) + B l (8 * i + 7)
def pack (l : List Bool) : List Nat := (List.range ((l.length + 7) / 8)).map (byteAt l)
/-- The lowest bits of a number, the highest first. -/
def bitsOf (n : Nat) : Nat → List Bool
  | 0 => []
  | w + 1 => n.testBit w :: bitsOf n w

theorem B_le (l : List Bool) (j : Nat) : B l j ≤ 1 := Bool.toNat_le _
theorem B_out {l : List Bool} {j : Nat} (h : l.length ≤ j) : B l j = 0 := by simp [B, List.getD, List.getElem?_eq_none h]
theorem B_snoc (l : List Bool) (c : Bool) (j : Nat) : B (l ++ [c]) j = if j = l.length then c.toNat else B l j := by
  unfold B
  by_cases h : j < l.length
  · rw [if_neg (by omega)]; simp [List.getD, List.getElem?_append_left h]
  · by_cases h' : j = l.length
    · rw [if_pos h', h']; simp [List.getD]
    · rw [if_neg h']; simp only [List.getD]; rw [List.getElem?_eq_none (by simp; omega), List.getElem?_eq_none (by omega)]
theorem byteAt_lt (l : List Bool) (i : Nat) : byteAt l i < 256 := by
  have h0 := B_le l (8 * i); have h1 := B_le l (8 * i + 1); have h2 := B_le l (8 * i + 2); have h3 := B_le l (8 * i + 3)
  have h4 := B_le l (8 * i + 4); have h5 := B_le l (8 * i + 5); have h6 := B_le l (8 * i + 6); have h7 := B_le l (8 * i + 7)
  unfold byteAt; omega
theorem pack_length (l : List Bool) : (pack l).length = (l.length + 7) / 8 := by simp [pack]
theorem pack_lt (l : List Bool) : ∀ b ∈ pack l, b < 256 := by
  intro b hb; simp only [pack, List.mem_map] at hb; obtain ⟨i, _, rfl⟩ := hb; exact byteAt_lt l i
theorem pack_get {l : List Bool} {i : Nat} (h : i < (l.length + 7) / 8) : (pack l)[i]? = some (byteAt l i) := by simp [pack, h]
theorem byteAt_snoc (l : List Bool) (c : Bool) (i : Nat) : byteAt (l ++ [c]) i = if i = l.length / 8 then byteAt l i + c.toNat * 2 ^ (7 - l.length % 8) else byteAt l i := by
  by_cases h : i = l.length / 8
  · rw [if_pos h]
    have hr : l.length = 8 * i + l.length % 8 := by omega
    have hlt : l.length % 8 < 8 := by omega
    generalize l.length % 8 = r at *
    have hB : ∀ k, k < 8 → B (l ++ [c]) (8 * i + k) = if k = r then c.toNat else B l (8 * i + k) := fun k hk => by rw [B_snoc, hr]; congr 1; simp
    have hz : B l (8 * i + r) = 0 := B_out (by omega)
    have h0 := hB 0 (by omega); have h1 := hB 1 (by omega); have h2 := hB 2 (by omega); have h3 := hB 3 (by omega)
    have h4 := hB 4 (by omega); have h5 := hB 5 (by omega); have h6 := hB 6 (by omega); have h7 := hB 7 (by omega)
    simp only [Nat.add_zero] at h0
    unfold byteAt
    rw [h0, h1, h2, h3, h4, h5, h6, h7]
    have hr8 : r = 0 ∨ r = 1 ∨ r = 2 ∨ r = 3 ∨ r = 4 ∨ r = 5 ∨ r = 6 ∨ r = 7 := by omega
    rcases hr8 with e | e | e | e | e | e | e | e <;> subst e <;> simp at hz ⊢ <;> omega
  · rw [if_neg h]
    have hB : ∀ k, k < 8 → B (l ++ [c]) (8 * i + k) = B l (8 * i + k) := fun k hk => by rw [B_snoc, if_neg (by omega)]
    have h0 := hB 0 (by omega)
    simp only [Nat.add_zero] at h0
    unfold byteAt
    rw [h0, hB 1 (by omega), hB 2 (by omega), hB 3 (by omega), hB 4 (by omega), hB 5 (by omega), hB 6 (by omega), hB 7 (by omega)]
theorem byteAt_out {l : List Bool} {i : Nat} (h : l.length ≤ 8 * i) : byteAt l i = 0 := by
  unfold byteAt
  rw [B_out h, B_out (by omega), B_out (by omega), B_out (by omega), B_out (by omega), B_out (by omega), B_out (by omega), B_out (by omega)]

/-- A bit is laid behind: at the start of a byte, within one. -/
theorem pack_snoc_new {l : List Bool} (c : Bool) (h : l.length % 8 = 0) : pack (l ++ [c]) = (pack l ++ [0]).set (l.length / 8) (0 + c.toNat * 2 ^ (7 - l.length % 8)) := by
  refine List.ext_getElem? fun i => ?_
  have hl : (l ++ [c]).length = l.length + 1 := by simp
  have hp := pack_length l
  by_cases hi : i < (l.length + 7) / 8
  · rw [pack_get (by rw [hl]; omega), byteAt_snoc, if_neg (by omega), List.getElem?_set_ne (by omega), List.getElem?_append_left (by omega), pack_get hi]
  · by_cases he : i = l.length / 8
    · rw [pack_get (by rw [hl]; omega), byteAt_snoc, if_pos he, byteAt_out (by omega), he, List.getElem?_set_self (by simp; omega)]
    · rw [List.getElem?_eq_none (by rw [pack_length, hl]; omega), List.getElem?_eq_none (by simp; omega)]
theorem pack_snoc_in {l : List Bool} (c : Bool) (h : l.length % 8 ≠ 0) : pack (l ++ [c]) = (pack l).set (l.length / 8) (byteAt l (l.length / 8) + c.toNat * 2 ^ (7 - l.length % 8)) := by
  refine List.ext_getElem? fun i => ?_
  have hl : (l ++ [c]).length = l.length + 1 := by simp
  have hp := pack_length l
  by_cases hi : i < (l.length + 7) / 8
  · by_cases he : i = l.length / 8
    · rw [pack_get (by rw [hl]; omega), byteAt_snoc, if_pos he, he, List.getElem?_set_self (by omega)]
    · rw [pack_get (by rw [hl]; omega), byteAt_snoc, if_neg he, List.getElem?_set_ne (by omega), pack_get hi]
  · rw [List.getElem?_eq_none (by rw [pack_length, hl]; omega), List.getElem?_eq_none (by simp; omega)]
/-- The lowest bits of the byte that is being filled are none. -/
theorem byteAt_low {l : List Bool} (h : l.length % 8 ≠ 0) : byteAt l (l.length / 8) % 2 ^ (8 - l.length % 8) = 0 := by
  have hr : l.length = 8 * (l.length / 8) + l.length % 8 := by omega
  have hlt : l.length % 8 < 8 := by omega
  generalize l.length / 8 = i at *
  generalize l.length % 8 = r at *
  have hz : ∀ k, r ≤ k → B l (8 * i + k) = 0 := fun k hk => B_out (by omega)
  unfold byteAt
  have hr8 : r = 1 ∨ r = 2 ∨ r = 3 ∨ r = 4 ∨ r = 5 ∨ r = 6 ∨ r = 7 := by omega
  rcases hr8 with e | e | e | e | e | e | e <;> subst e <;> simp [hz] <;> omega
theorem pack_align {l : List Bool} : pack (l ++ List.replicate ((8 - l.length % 8) % 8) false) = pack l := by
  have hB : ∀ j, B (l ++ List.replicate ((8 - l.length % 8) % 8) false) j = B l j := fun j => by
    unfold B
    by_cases h : j < l.length
    · simp [List.getD, List.getElem?_append_left h]
    · by_cases h' : j < l.length + (8 - l.length % 8) % 8
      · simp only [List.getD]; rw [List.getElem?_append_right (by omega), List.getElem?_eq_none (by omega : l.length ≤ j)]
        rw [List.getElem?_replicate]; split <;> rfl
      · simp only [List.getD]; rw [List.getElem?_eq_none (by simp; omega), List.getElem?_eq_none (by omega : l.length ≤ j)]
  have hb : byteAt (l ++ List.replicate ((8 - l.length % 8) % 8) false) = byteAt l := by funext i; unfold byteAt; simp only [hB]
  unfold pack; rw [hb]; congr 2; simp; omega

theorem bitsOf_length (n w : Nat) : (bitsOf n w).length = w := by induction w with
  | zero => rfl
  | succ w ih => simp [bitsOf, ih]
theorem bitsOf_succ (n w : Nat) : bitsOf n (w + 1) = n.testBit w :: bitsOf n w := rfl
theorem testBit_div (n i : Nat) : n / 2 ^ i % 2 = (n.testBit i).toNat := (Nat.toNat_testBit n i).symm

/-- Numbers in 'or' with a bit that is none there: a sum. -/
theorem or_bit {x s c : Nat} (h : x % 2 ^ (s + 1) = 0) (hc : c ≤ 1) : x ||| (c * 2 ^ s) = x + c * 2 ^ s := by
  have hx : x = 2 ^ (s + 1) * (x / 2 ^ (s + 1)) := by have := Nat.div_add_mod x (2 ^ (s + 1)); omega
  have hlt : c * 2 ^ s < 2 ^ (s + 1) := by
    have : c * 2 ^ s ≤ 1 * 2 ^ s := Nat.mul_le_mul_right _ hc
    have := Nat.two_pow_pos s
    rw [Nat.pow_succ]; omega
  rw [hx, ← Nat.two_pow_add_eq_or_of_lt hlt]
theorem or_one {x c : Nat} (hc : c ≤ 1) : 2 * x ||| c = 2 * x + c := by
  have := or_bit (x := 2 * x) (s := 0) (c := c) (by simp) hc
  simpa using this

/-- A bit of bytes; the number of so many. -/
def bitAt (bs : List Nat) (k : Nat) : Bool := (bs.getD (k / 8) 0).testBit (7 - k % 8)
def toldN (bs : List Nat) (at_ : Nat) : Nat → Nat
  | 0 => 0
  | w + 1 => 2 * toldN bs at_ w + (bitAt bs (at_ + w)).toNat
theorem toldN_lt (bs : List Nat) (a w : Nat) : toldN bs a w < 2 ^ w := by
  induction w with
  | zero => simp [toldN]
  | succ w ih => have := Bool.toNat_le (bitAt bs (a + w)); rw [toldN, Nat.pow_succ]; omega

/-- 'and', 'or' of the machine, on numbers. -/
theorem bitop_or {k : IntKind} {a b : Nat} (ha : a < 2 ^ k.bits) (hb : b < 2 ^ k.bits) : bitop .or k a b = k.wrap ((a ||| b : Nat) : Int) := by
  simp only [bitop]; congr 1
  rw [BitVec.ofInt_natCast, BitVec.ofInt_natCast, BitVec.toNat_or, BitVec.toNat_ofNat, BitVec.toNat_ofNat, Nat.mod_eq_of_lt ha, Nat.mod_eq_of_lt hb]
theorem bitop_and {k : IntKind} {a b : Nat} (ha : a < 2 ^ k.bits) (hb : b < 2 ^ k.bits) : bitop .and k a b = k.wrap ((a &&& b : Nat) : Int) := by
  simp only [bitop]; congr 1
  rw [BitVec.ofInt_natCast, BitVec.ofInt_natCast, BitVec.toNat_and, BitVec.toNat_ofNat, BitVec.toNat_ofNat, Nat.mod_eq_of_lt ha, Nat.mod_eq_of_lt hb]
theorem shr_nat {k : IntKind} {a i : Nat} (ha : a < 2 ^ k.bits) : shr k a i = ((a / 2 ^ i : Nat) : Int) := by
  simp only [shr, Int.toNat_natCast]
  rw [show ((2 : Int) ^ min i k.bits) = ((2 ^ min i k.bits : Nat) : Int) by simp, Int.fdiv_eq_ediv_of_nonneg _ (Int.natCast_nonneg _), ← Int.natCast_ediv]
  congr 1
  by_cases h : i ≤ k.bits
  · rw [Nat.min_eq_left h]
  · rw [Nat.min_eq_right (by omega), Nat.div_eq_of_lt ha, Nat.div_eq_of_lt (Nat.lt_of_lt_of_le ha (Nat.pow_le_pow_right (by omega) (by omega)))]
theorem shl_nat {k : IntKind} {a i : Nat} (hi : i ≤ k.bits) : shl k a i = k.wrap ((a * 2 ^ i : Nat) : Int) := by
  simp only [shl, Int.toNat_natCast, Nat.min_eq_left hi]; congr 1

theorem shr64 {a i : Nat} (ha : a < 18446744073709551616) : shr .u64 a i = ((a / 2 ^ i : Nat) : Int) := shr_nat (k := .u64) ha
theorem shr8 {a i : Nat} (ha : a < 256) : shr .u8 a i = ((a / 2 ^ i : Nat) : Int) := shr_nat (k := .u8) ha
theorem shl64 {a i : Nat} (hi : i ≤ 64) : shl .u64 a i = IntKind.wrap .u64 ((a * 2 ^ i : Nat) : Int) := shl_nat (k := .u64) hi
theorem shl8 {a i : Nat} (hi : i ≤ 8) : shl .u8 a i = IntKind.wrap .u8 ((a * 2 ^ i : Nat) : Int) := shl_nat (k := .u8) hi
theorem and1_64 {a : Nat} (ha : a < 18446744073709551616) : bitop .and .u64 a 1 = ((a % 2 : Nat) : Int) := by
  have := bitop_and (k := .u64) (a := a) (b := 1) ha (by decide)
  rw [Nat.and_one_is_mod] at this
  exact this.trans (wu64 (by omega))
theorem and1_8 {a : Nat} (ha : a < 256) : bitop .and .u8 a 1 = ((a % 2 : Nat) : Int) := by
  have := bitop_and (k := .u8) (a := a) (b := 1) ha (by decide)
  rw [Nat.and_one_is_mod] at this
  exact this.trans (wu8 (by omega))
theorem or8 {a b : Nat} (ha : a < 256) (hb : b < 256) : bitop .or .u8 a b = ((a ||| b : Nat) : Int) :=
  (bitop_or (k := .u8) ha hb).trans (wu8 ⟨by omega, by have := Nat.or_lt_two_pow (n := 8) ha hb; omega⟩)
theorem or64 {a b : Nat} (ha : a < 18446744073709551616) (hb : b < 18446744073709551616) : bitop .or .u64 a b = ((a ||| b : Nat) : Int) :=
  (bitop_or (k := .u64) ha hb).trans (wu64 ⟨by omega, by have := Nat.or_lt_two_pow (n := 64) ha hb; omega⟩)

theorem lay_byte {x c r : Nat} (hr : r < 8) (hx : x % 2 ^ (8 - r) = 0) (hlt : x < 256) (hc : c ≤ 1) : bitop .or .u8 x (shl .u8 (c : Int) (7 - (r : Int))) = ((x + c * 2 ^ (7 - r) : Nat) : Int) := by
  have e7 : (7 - (r : Int)) = ((7 - r : Nat) : Int) := by omega
  have hp : 2 ^ (7 - r) ≤ 2 ^ 7 := Nat.pow_le_pow_right (by omega) (by omega)
  have hcp : c * 2 ^ (7 - r) ≤ 1 * 2 ^ (7 - r) := Nat.mul_le_mul_right _ hc
  rw [e7, shl8 (by omega), wu8 (by omega), or8 hlt (by omega), or_bit (by rw [show 7 - r + 1 = 8 - r by omega]; exact hx) hc]
theorem bit64 {n : Nat} (m : Nat) (hn : n < 18446744073709551616) : bitop .and .u64 ((n / 2 ^ m : Nat) : Int) 1 = ((n.testBit m).toNat : Int) := by
  rw [and1_64 (Nat.lt_of_le_of_lt (Nat.div_le_self _ _) hn), testBit_div]
theorem bit8 {n : Nat} (m : Nat) (hn : n < 256) : bitop .and .u8 ((n / 2 ^ m : Nat) : Int) 1 = ((n.testBit m).toNat : Int) := by
  rw [and1_8 (Nat.lt_of_le_of_lt (Nat.div_le_self _ _) hn), testBit_div]

theorem sub7 (a : Nat) : 7 - ((a % 8 : Nat) : Int) = ((7 - a % 8 : Nat) : Int) := by omega
theorem cadd (a b : Nat) : (a : Int) + (b : Int) = ((a + b : Nat) : Int) := rfl
theorem bitAt_get {bs : List Nat} {k : Nat} (h : k / 8 < bs.length) : (bitAt bs k) = bs[k / 8].testBit (7 - k % 8) := by simp [bitAt, List.getD, h]
/-- One bit more is told. -/
theorem told_step64 {t c : Nat} (ht : t < 9223372036854775808) (hc : c ≤ 1) : bitop .or .u64 (shl .u64 (t : Int) 1) (c : Int) = ((2 * t + c : Nat) : Int) := by
  have := shl64 (a := t) (i := 1) (by omega)
  rw [show ((1 : Nat) : Int) = 1 from rfl] at this
  rw [this, wu64 (by omega), or64 (by omega) (by omega), Nat.pow_one, Nat.mul_comm t 2, or_one hc]
theorem told_step8 {t c : Nat} (ht : t < 128) (hc : c ≤ 1) : bitop .or .u8 (shl .u8 (t : Int) 1) (c : Int) = ((2 * t + c : Nat) : Int) := by
  have := shl8 (a := t) (i := 1) (by omega)
  rw [show ((1 : Nat) : Int) = 1 from rfl] at this
  rw [this, wu8 (by omega), or8 (by omega) (by omega), Nat.pow_one, Nat.mul_comm t 2, or_one hc]

theorem wrap8 (a : Nat) : IntKind.wrap .u8 (a : Int) = ((a % 256 : Nat) : Int) := by
  simp only [IntKind.wrap, IntKind.bits, IntKind.signed, Bool.false_and, Bool.false_eq_true, if_false]; omega
theorem and127 {a : Nat} (ha : a < 256) : bitop .and .u8 a 127 = ((a % 128 : Nat) : Int) := by
  have := bitop_and (k := .u8) (a := a) (b := 127) ha (by decide)
  rw [show (127 : Nat) = 2 ^ 7 - 1 from rfl, Nat.and_two_pow_sub_one_eq_mod] at this
  exact this.trans (wu8 (by omega))
theorem or128 {a : Nat} (ha : a < 128) : bitop .or .u8 a 128 = ((a + 128 : Nat) : Int) := by
  have := or8 (a := a) (b := 128) (by omega) (by omega)
  refine this.trans ?_
  have h := Nat.two_pow_add_eq_or_of_lt (i := 7) (b := a) ha 1
  rw [Nat.or_comm, show (128 : Nat) = 2 ^ 7 * 1 from rfl, ← h]; congr 1; omega
theorem shr64_7 {a : Nat} (ha : a < 18446744073709551616) : shr .u64 a 7 = ((a / 128 : Nat) : Int) := shr64 (i := 7) ha
theorem cmul7 (a : Nat) : 7 * (a : Int) = ((7 * a : Nat) : Int) := by omega
theorem cmul8 (a : Nat) : 8 * (a : Int) = ((8 * a : Nat) : Int) := by omega
theorem mod256_128 (a : Nat) : a % 256 % 128 = a % 128 := by omega

theorem cmod128 (a : Nat) : (a : Int) % 128 = ((a % 128 : Nat) : Int) := by omega
theorem cdiv128 (a : Nat) : (a : Int) / 128 = ((a / 128 : Nat) : Int) := by omega
theorem mod128_256 (a : Nat) : a % 128 % 256 = a % 128 := by omega
theorem cadd128 (a : Nat) : (a : Int) + 128 = ((a + 128 : Nat) : Int) := by omega

theorem cadd1 (a : Nat) : (a : Int) + 1 = ((a + 1 : Nat) : Int) := rfl
theorem cmul2 (a : Nat) : 2 * (a : Int) = ((2 * a : Nat) : Int) := by omega

end Go.Ab
