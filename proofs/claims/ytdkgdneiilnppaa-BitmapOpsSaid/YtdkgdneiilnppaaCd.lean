/- How many pixels of a word are black: what the library's count of ones tells. Conditions: none. -/
import Derived.Test.YtdkgdneiilnppaaCb
set_option linter.all false
namespace Go.Ab

/-- How many of the first n. -/
def cntF (f : Nat → Bool) : Nat → Nat
  | 0 => 0
  | n + 1 => cntF f n + (f n).toNat
theorem cntF_le (f : Nat → Bool) (n : Nat) : cntF f n ≤ n := by
  induction n with
  | zero => exact Nat.le_refl _
  | succ n ih => have := Bool.toNat_le (f n); rw [cntF]; omega
theorem cntF_congr {f g : Nat → Bool} {n : Nat} (h : ∀ i, i < n → f i = g i) : cntF f n = cntF g n := by
  induction n with
  | zero => rfl
  | succ n ih => rw [cntF, cntF, ih fun i hi => h i (by omega), h n (by omega)]
theorem cntF_add (f : Nat → Bool) (m n : Nat) : cntF f (m + n) = cntF f m + cntF (fun i => f (m + i)) n := by
  induction n with
  | zero => rfl
  | succ n ih => rw [← Nat.add_assoc, cntF, ih, cntF, Nat.add_assoc]
theorem cntF_rev (f : Nat → Bool) : ∀ n, cntF (fun i => f (n - 1 - i)) n = cntF f n
  | 0 => rfl
  | n + 1 => by
    have h := cntF_add (fun i => f (n + 1 - 1 - i)) 1 n
    rw [Nat.add_comm 1 n] at h
    rw [h]
    have e : cntF (fun i => f (n + 1 - 1 - (1 + i))) n = cntF (fun i => f (n - 1 - i)) n := cntF_congr fun i hi => by congr 1; omega
    rw [e, cntF_rev f n]
    simp only [cntF, Nat.zero_add, Nat.sub_zero, Nat.add_sub_cancel]
    omega
def popN (n k : Nat) : Nat := cntF n.testBit k
theorem pop_rev (n : Nat) : cntF (wb n) 64 = popN n 64 := cntF_rev n.testBit 64
theorem popN_8 (n k : Nat) : popN n (8 + k) = popN (n % 256) 8 + popN (n / 256) k := by
  unfold popN
  rw [cntF_add]
  congr 1
  · exact cntF_congr fun i hi => by rw [show 256 = 2 ^ 8 by decide, Nat.testBit_mod_two_pow, decide_eq_true hi]; rfl
  · exact cntF_congr fun i hi => by rw [show 256 = 2 ^ 8 by decide, Nat.testBit_div_two_pow, Nat.add_comm]

/-- Byte by byte. -/
def mapB (f : Nat → Nat) : Nat → Nat → Nat
  | 0, _ => 0
  | k + 1, n => f (n % 256) + 256 * mapB f k (n / 256)
def rep (m : Nat) : Nat → Nat
  | 0 => 0
  | k + 1 => m + 256 * rep m k
theorem and_byte {a b c d : Nat} (ha : a < 256) (hc : c < 256) : (a + 256 * b) &&& (c + 256 * d) = (a &&& c) + 256 * (b &&& d) := by
  have h : a &&& c < 256 := Nat.lt_of_le_of_lt Nat.and_le_left ha
  refine Nat.eq_of_testBit_eq fun i => ?_
  have key : ∀ x y : Nat, x < 256 → (x + 256 * y).testBit i = if i < 8 then x.testBit i else y.testBit (i - 8) := fun x y hx => by
    rw [show x + 256 * y = 2 ^ 8 * y + x by omega, Nat.testBit_two_pow_mul_add _ (show x < 2 ^ 8 from hx)]
  rw [Nat.testBit_and, key a b ha, key c d hc, key _ _ h]
  split
  · rw [Nat.testBit_and]
  · rw [Nat.testBit_and]
theorem mask_bytes {m s : Nat} (hs : s ≤ 8) (hm : m < 2 ^ (8 - s)) : ∀ k n, n / 2 ^ s &&& rep m k = mapB (fun a => a / 2 ^ s &&& m) k n
  | 0, n => by simp [rep, mapB]
  | k + 1, n => by
    have hp : 2 ^ s * 2 ^ (8 - s) = 256 := by rw [← Nat.pow_add, show s + (8 - s) = 8 by omega]
    have hps := Nat.two_pow_pos s
    have hps2 := Nat.two_pow_pos (8 - s)
    have hm' : m < 256 := Nat.lt_of_lt_of_le hm (by rw [← hp]; exact Nat.le_mul_of_pos_left _ hps)
    rw [rep, mapB, ← mask_bytes hs hm k (n / 256)]
    have e1 : n / 2 ^ s = (n / 2 ^ s % 256) + 256 * (n / 2 ^ s / 256) := by omega
    have e2 : n / 2 ^ s / 256 = n / 256 / 2 ^ s := by rw [Nat.div_div_eq_div_mul, Nat.div_div_eq_div_mul, Nat.mul_comm]
    rw [e1, and_byte (Nat.mod_lt _ (by omega)) hm', e2]
    congr 1
    refine Nat.eq_of_testBit_eq fun i => ?_
    rw [Nat.testBit_and, Nat.testBit_and]
    by_cases hi : i < 8 - s
    · congr 1
      rw [show 256 = 2 ^ 8 by decide, Nat.testBit_mod_two_pow, Nat.testBit_div_two_pow, Nat.testBit_div_two_pow, Nat.testBit_mod_two_pow, decide_eq_true (show i < 8 by omega), decide_eq_true (show i + s < 8 by omega)]
    · have : m.testBit i = false := Nat.testBit_lt_two_pow (Nat.lt_of_lt_of_le hm (Nat.pow_le_pow_right (by omega) (by omega)))
      rw [this]; simp
theorem mapB_add (f g : Nat → Nat) : ∀ k n, mapB f k n + mapB g k n = mapB (fun a => f a + g a) k n
  | 0, _ => rfl
  | k + 1, n => by rw [mapB, mapB, mapB, ← mapB_add f g k]; omega
theorem mapB_map {f g : Nat → Nat} (hg : ∀ a, a < 256 → g a < 256) : ∀ k n, mapB f k (mapB g k n) = mapB (fun a => f (g a)) k n
  | 0, _ => rfl
  | k + 1, n => by
    have h := hg (n % 256) (Nat.mod_lt _ (by omega))
    rw [mapB, mapB, mapB, show (g (n % 256) + 256 * mapB g k (n / 256)) % 256 = g (n % 256) by omega, show (g (n % 256) + 256 * mapB g k (n / 256)) / 256 = mapB g k (n / 256) by omega, mapB_map hg k]
theorem mapB_lt {f : Nat → Nat} (hf : ∀ a, a < 256 → f a < 256) : ∀ k n, mapB f k n < 256 ^ k
  | 0, _ => by simp [mapB]
  | k + 1, n => by
    have h := hf (n % 256) (Nat.mod_lt _ (by omega))
    have := mapB_lt hf k (n / 256)
    rw [mapB, Nat.pow_succ]; omega
theorem fold_bytes {g : Nat → Nat} (hg : ∀ a, a < 256 → g a % 16 ≤ 4 ∧ g a / 16 ≤ 4) : ∀ k n, (mapB g k n / 16 + mapB g k n) &&& rep 15 k = mapB (fun a => g a / 16 + g a % 16) k n
  | 0, n => by simp [rep, mapB]
  | k + 1, n => by
    have h := hg (n % 256) (Nat.mod_lt _ (by omega))
    have hb : mapB g k (n / 256) % 16 ≤ 4 := by
      cases k with
      | zero => simp [mapB]
      | succ k => have := hg (n / 256 % 256) (Nat.mod_lt _ (by omega)); rw [mapB]; omega
    rw [rep, mapB, mapB, ← fold_bytes hg k]
    generalize g (n % 256) = a at h
    generalize mapB g k (n / 256) = b at hb
    have e : (a + 256 * b) / 16 + (a + 256 * b) = (a / 16 + a % 16 + 16 * (a / 16 + b % 16)) + 256 * (b / 16 + b) := by omega
    rw [e, and_byte (by omega) (by omega)]
    congr 1
    have : a / 16 + a % 16 + 16 * (a / 16 + b % 16) &&& 15 = (a / 16 + a % 16 + 16 * (a / 16 + b % 16)) % 16 := Nat.and_two_pow_sub_one_eq_mod _ 4
    rw [this]; omega

def sA (a : Nat) : Nat := (a / 2 ^ 1 &&& 85) + (a / 2 ^ 0 &&& 85)
def sB (a : Nat) : Nat := (a / 2 ^ 2 &&& 51) + (a / 2 ^ 0 &&& 51)
theorem byte_pop : ∀ a, a < 256 → sB (sA a) / 16 + sB (sA a) % 16 = popN a 8 := by decide +kernel
theorem byte_A : ∀ a, a < 256 → sA a < 256 := by decide +kernel
theorem byte_B : ∀ a, a < 256 → sB (sA a) % 16 ≤ 4 ∧ sB (sA a) / 16 ≤ 4 := by decide +kernel
theorem byte_C : ∀ a, a < 256 → popN a 8 ≤ 8 := fun a _ => cntF_le _ _
theorem mapB_congr {f g : Nat → Nat} (h : ∀ a, a < 256 → f a = g a) : ∀ k n, mapB f k n = mapB g k n
  | 0, _ => rfl
  | k + 1, n => by rw [mapB, mapB, h _ (Nat.mod_lt _ (by omega)), mapB_congr h k]

/-- Eight bytes are added up. -/
theorem fold8 {a1 a2 a3 a4 a5 a6 a7 a8 : Nat} (q1 : a1 ≤ 8) (q2 : a2 ≤ 8) (q3 : a3 ≤ 8) (q4 : a4 ≤ 8) (q5 : a5 ≤ 8) (q6 : a6 ≤ 8) (q7 : a7 ≤ 8) (q8 : a8 ≤ 8) {x y z : Nat}
    (hx : x = a1 + 256 * (a2 + 256 * (a3 + 256 * (a4 + 256 * (a5 + 256 * (a6 + 256 * (a7 + 256 * a8))))))) (hy : y = x + x / 256) (hz : z = y + y / 65536) :
    y < 18446744073709551616 ∧ z < 18446744073709551616 ∧ z + z / 4294967296 < 18446744073709551616 ∧ (z + z / 4294967296) % 128 = a1 + (a2 + (a3 + (a4 + (a5 + (a6 + (a7 + a8)))))) := by
  have e1 : y = (a1 + a2) + 256 * ((a2 + a3) + 256 * ((a3 + a4) + 256 * ((a4 + a5) + 256 * ((a5 + a6) + 256 * ((a6 + a7) + 256 * ((a7 + a8) + 256 * a8)))))) := by omega
  clear hy hx
  have e2 : z = (a1 + a2 + a3 + a4) + 256 * ((a2 + a3 + a4 + a5) + 256 * ((a3 + a4 + a5 + a6) + 256 * ((a4 + a5 + a6 + a7) + 256 * ((a5 + a6 + a7 + a8) + 256 * ((a6 + a7 + a8) + 256 * ((a7 + a8) + 256 * a8)))))) := by omega
  have e1' : y < 18446744073709551616 := by omega
  clear e1 hz
  have e3 : z / 4294967296 = (a5 + a6 + a7 + a8) + 256 * ((a6 + a7 + a8) + 256 * ((a7 + a8) + 256 * a8)) := by omega
  exact ⟨e1', by omega, by omega, by omega⟩
theorem mapB8 (f : Nat → Nat) (n : Nat) : ∃ b1 b2 b3 b4 b5 b6 b7 b8, mapB f 8 n = f b1 + 256 * (f b2 + 256 * (f b3 + 256 * (f b4 + 256 * (f b5 + 256 * (f b6 + 256 * (f b7 + 256 * f b8)))))) ∧
    popN n 64 = popN b1 8 + (popN b2 8 + (popN b3 8 + (popN b4 8 + (popN b5 8 + (popN b6 8 + (popN b7 8 + popN b8 8)))))) := by
  have st : ∀ k m, mapB f (k + 1) m = f (m % 256) + 256 * mapB f k (m / 256) := fun _ _ => rfl
  have last : popN (n / 256 / 256 / 256 / 256 / 256 / 256 / 256) 8 = popN (n / 256 / 256 / 256 / 256 / 256 / 256 / 256 % 256) 8 := by
    have := popN_8 (n / 256 / 256 / 256 / 256 / 256 / 256 / 256) 0
    simpa [popN, cntF] using this
  refine ⟨n % 256, n / 256 % 256, n / 256 / 256 % 256, n / 256 / 256 / 256 % 256, n / 256 / 256 / 256 / 256 % 256, n / 256 / 256 / 256 / 256 / 256 % 256, n / 256 / 256 / 256 / 256 / 256 / 256 % 256, n / 256 / 256 / 256 / 256 / 256 / 256 / 256 % 256, ?_, ?_⟩
  rotate_left
  · rw [popN_8 n 56, popN_8 _ 48, popN_8 _ 40, popN_8 _ 32, popN_8 _ 24, popN_8 _ 16, popN_8 _ 8, last]
  · rw [st 7, st 6, st 5, st 4, st 3, st 2, st 1, st 0]; rfl
theorem stepA (n : Nat) : (n / 2 ^ 1 &&& 6148914691236517205) + (n &&& 6148914691236517205) = mapB sA 8 n := by
  have a := mask_bytes (m := 85) (s := 1) (by omega) (by decide) 8 n
  have b := mask_bytes (m := 85) (s := 0) (by omega) (by decide) 8 n
  rw [show rep 85 8 = 6148914691236517205 by decide] at a b
  rw [Nat.pow_zero, Nat.div_one] at b
  rw [a, b, mapB_add]; exact mapB_congr (fun a _ => rfl) 8 n
theorem stepB (n : Nat) : (mapB sA 8 n / 2 ^ 2 &&& 3689348814741910323) + (mapB sA 8 n &&& 3689348814741910323) = mapB (fun a => sB (sA a)) 8 n := by
  have a := mask_bytes (m := 51) (s := 2) (by omega) (by decide) 8 (mapB sA 8 n)
  have b := mask_bytes (m := 51) (s := 0) (by omega) (by decide) 8 (mapB sA 8 n)
  rw [show rep 51 8 = 3689348814741910323 by decide] at a b
  rw [Nat.pow_zero, Nat.div_one] at b
  rw [a, b, mapB_add, ← mapB_map byte_A]; exact mapB_congr (fun a _ => rfl) 8 _
theorem stepC (n : Nat) : (mapB (fun a => sB (sA a)) 8 n / 2 ^ 4 + mapB (fun a => sB (sA a)) 8 n) &&& 1085102592571150095 = mapB (fun a => popN a 8) 8 n := by
  have h3 := fold_bytes byte_B 8 n
  rw [show rep 15 8 = 1085102592571150095 by decide, mapB_congr byte_pop] at h3
  exact h3
theorem stepB_le (n : Nat) : mapB (fun a => sB (sA a)) 8 n ≤ 4919131752989213764 := by
  have e : ∀ k m, mapB (fun a => sB (sA a)) k m ≤ 68 * rep 1 k := by
    intro k
    induction k with
    | zero => intro m; simp [mapB, rep]
    | succ k ih => intro m; have := ih (m / 256); have := byte_B (m % 256) (Nat.mod_lt _ (by omega)); rw [mapB, rep]; omega
  have := e 8 n
  rwa [show 68 * rep 1 8 = 4919131752989213764 by decide] at this

section
variable {P : Prog} {H : Heap} {Q : Out → Heap → Prop}
theorem andI127 {x : Nat} : bitop .and .i64 (IntKind.wrap .i64 (x : Int)) 127 = ((x % 128 : Nat) : Int) := by
  have e : BitVec.ofInt 64 (IntKind.wrap .i64 (x : Int)) = BitVec.ofNat 64 x := by
    apply BitVec.eq_of_toNat_eq
    rw [BitVec.toNat_ofInt, BitVec.toNat_ofNat, IntKind.wrap]
    simp only [IntKind.bits, IntKind.signed, Bool.true_and]
    split <;> omega
  unfold bitop
  rw [show BitVec.ofInt (IntKind.bits .i64) (IntKind.wrap .i64 (x : Int)) = BitVec.ofNat 64 x from e]
  rw [show BitVec.ofInt (IntKind.bits .i64) 127 = BitVec.ofNat 64 127 from rfl]
  have h : (BitVec.ofNat 64 x &&& BitVec.ofNat 64 127).toNat = x % 128 := by
    rw [BitVec.toNat_and, BitVec.toNat_ofNat, BitVec.toNat_ofNat, show 127 % 2 ^ 64 = 2 ^ 7 - 1 by decide, Nat.and_two_pow_sub_one_eq_mod]; omega
  show IntKind.wrap .i64 ((BitVec.ofNat 64 x &&& BitVec.ofNat 64 127).toNat : Int) = _
  rw [h]; exact w64 (by omega)
theorem ones_ct (hp : HasBm P) {n : Nat} (hn : n < 18446744073709551616) (hQ : Q (.ret (.int .i64 (cntF (wb n) 64 : Nat))) H) : Call P 51 [.int .u64 n] H Q := by
  have l1 := mapB_lt byte_A 8 n
  rw [show 256 ^ 8 = 18446744073709551616 by decide] at l1
  have l2 := stepB_le n
  have e1 := stepA n
  have e2 := stepB n
  have e3 := stepC n
  obtain ⟨b1, b2, b3, b4, b5, b6, b7, b8, hx3, hpop⟩ := mapB8 (fun a => popN a 8) n
  generalize mapB sA 8 n = x1 at *
  generalize mapB (fun a => sB (sA a)) 8 n = x2 at *
  generalize mapB (fun a => popN a 8) 8 n = x3 at *
  have hf := fold8 (cntF_le _ _) (cntF_le _ _) (cntF_le _ _) (cntF_le _ _) (cntF_le _ _) (cntF_le _ _) (cntF_le _ _) (cntF_le _ _) hx3 rfl rfl
  rw [show cntF (wb n) 64 = popN n 64 from pop_rev n, hpop] at hQ
  obtain ⟨l4, l5, l6, e7⟩ := hf
  have e7 : (x3 + x3 / 256 + (x3 + x3 / 256) / 65536 + (x3 + x3 / 256 + (x3 + x3 / 256) / 65536) / 4294967296) % 128 = popN b1 8 + (popN b2 8 + (popN b3 8 + (popN b4 8 + (popN b5 8 + (popN b6 8 + (popN b7 8 + popN b8 8)))))) := e7
  rw [← e7] at hQ
  clear hpop hx3 e7
  have l3 : x3 < 18446744073709551616 := by omega
  refine call_of hp.h_math_bits_OnesCount64 rfl ?_
  have k1 : (6148914691236517205 : Nat) < 18446744073709551616 := by decide
  have k2 : (3689348814741910323 : Nat) < 18446744073709551616 := by decide
  have k3 : (1085102592571150095 : Nat) < 18446744073709551616 := by decide
  have lb : x2 / 2 ^ 4 + x2 < 18446744073709551616 := by omega
  have s1 : shr .u64 (n : Int) 1 = ((n / 2 ^ 1 : Nat) : Int) := shr64 (i := 1) hn
  have s2 : shr .u64 (x1 : Int) 2 = ((x1 / 2 ^ 2 : Nat) : Int) := shr64 (i := 2) l1
  have s3 : shr .u64 (x2 : Int) 4 = ((x2 / 2 ^ 4 : Nat) : Int) := shr64 (i := 4) (by omega)
  have a1 : bitop .and .u64 ((n / 2 ^ 1 : Nat) : Int) 6148914691236517205 = ((n / 2 ^ 1 &&& 6148914691236517205 : Nat) : Int) := and64 (shr_lt hn) k1
  have a2 : bitop .and .u64 (n : Int) 6148914691236517205 = ((n &&& 6148914691236517205 : Nat) : Int) := and64 hn k1
  have a3 : bitop .and .u64 ((x1 / 2 ^ 2 : Nat) : Int) 3689348814741910323 = ((x1 / 2 ^ 2 &&& 3689348814741910323 : Nat) : Int) := and64 (shr_lt l1) k2
  have a4 : bitop .and .u64 (x1 : Int) 3689348814741910323 = ((x1 &&& 3689348814741910323 : Nat) : Int) := and64 l1 k2
  have a5 : bitop .and .u64 ((x2 / 2 ^ 4 + x2 : Nat) : Int) 1085102592571150095 = ((x3 : Nat) : Int) := by rw [← e3]; exact and64 lb k3
  have w1 : IntKind.wrap .u64 (((n / 2 ^ 1 &&& 6148914691236517205 : Nat) : Int) + ((n &&& 6148914691236517205 : Nat) : Int)) = ((x1 : Nat) : Int) := by rw [← Int.natCast_add, e1]; exact wu64 (by omega)
  have w2 : IntKind.wrap .u64 (((x1 / 2 ^ 2 &&& 3689348814741910323 : Nat) : Int) + ((x1 &&& 3689348814741910323 : Nat) : Int)) = ((x2 : Nat) : Int) := by rw [← Int.natCast_add, e2]; exact wu64 (by omega)
  have w3 : IntKind.wrap .u64 (((x2 / 2 ^ 4 : Nat) : Int) + (x2 : Int)) = ((x2 / 2 ^ 4 + x2 : Nat) : Int) := by rw [← Int.natCast_add]; exact wu64 (by omega)
  have s4 : shr .u64 (x3 : Int) 8 = ((x3 / 256 : Nat) : Int) := shr64 (i := 8) l3
  have w4 : IntKind.wrap .u64 ((x3 : Int) + ((x3 / 256 : Nat) : Int)) = ((x3 + x3 / 256 : Nat) : Int) := by rw [← Int.natCast_add]; exact wu64 (by omega)
  clear e1 e2 e3
  generalize x3 + x3 / 256 = x4 at *
  have s5 : shr .u64 (x4 : Int) 16 = ((x4 / 65536 : Nat) : Int) := shr64 (i := 16) l4
  have w5 : IntKind.wrap .u64 ((x4 : Int) + ((x4 / 65536 : Nat) : Int)) = ((x4 + x4 / 65536 : Nat) : Int) := by rw [← Int.natCast_add]; exact wu64 (by omega)
  generalize x4 + x4 / 65536 = x5 at *
  have s6 : shr .u64 (x5 : Int) 32 = ((x5 / 4294967296 : Nat) : Int) := shr64 (i := 32) l5
  have w6 : IntKind.wrap .u64 ((x5 : Int) + ((x5 / 4294967296 : Nat) : Int)) = ((x5 + x5 / 4294967296 : Nat) : Int) := by rw [← Int.natCast_add]; exact wu64 (by omega)
  generalize x5 + x5 / 4294967296 = x6 at *
  simp -implicitDefEqProofs -dsimp (disch := omega) only [go_sem, Nat.reduceEqDiff, ↓reduceIte, Nat.reduceAdd, Nat.reduceMul, Nat.reduceSub, Nat.reduceLT, Nat.reduceLeDiff, Int.reduceLT, Int.reduceLE, Int.reduceEq, Int.reduceNeg, Int.reduceAdd, Int.reduceMul, Int.reduceSub, Int.reduceToNat, reduceCtorEq, s1, s2, s3, a1, a2, a3, a4, a5, w1, w2, w3, s4, w4, s5, w5, s6, w6, andI127]
  exact hQ
end
end Go.Ab
