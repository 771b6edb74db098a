/- What the package's bits functions come to, on the machine. Conditions: none. -/
import Derived.Test.YtnpdnkmnnmmagaaK4
import Derived.Test.YtnpdnkmnnmmagaaPBits
set_option linter.all false
namespace Go.Ab

def u8s (bs : List Nat) : List V := bs.map fun (n : Nat) => .int .u8 n
def Bytes (H : Heap) (v : V) (bs : List Nat) : Prop := Own H v 1 bs.length (u8s bs)
theorem u8s_one (bs : List Nat) : (u8s bs).all one = true := by simp [u8s, one]
theorem u8s_get {bs : List Nat} {i : Nat} (h : i < bs.length) : (u8s bs)[i]? = some (.int .u8 (bs[i] : Nat)) := by simp [u8s, h]
theorem u8s_set (bs : List Nat) (i n : Nat) : (u8s bs).set i (.int .u8 n) = u8s (bs.set i n) := by simp [u8s, List.map_set]

/-- A byte of one's own bytes is read, and written. -/
theorem Bytes.rw {H : Heap} {v : V} {bs : List Nat} (h : Bytes H v bs) {i : Nat} (hi : i < bs.length) : ∃ b, v = .sl (some (b, 0)) bs.length bs.length 1 ∧ b < H.next ∧ rd H none b i = some (.int .u8 (bs[i] : Nat)) ∧
    ∀ n : Nat, ∃ H', wr H b i [.int .u8 n] = some H' ∧ Bytes H' v (bs.set i n) ∧ Same (sb v) H H' := by
  obtain ⟨b, o, c, hv, hb, h1, _⟩ := h.arr.at hi
  have h2 := fun n : Nat => wr_own (vs := [.int .u8 n]) (k := 0) h hi (by simp) rfl
  obtain ⟨b', hv', _⟩ := h2 0
  rw [hv] at hv'; cases hv'
  refine ⟨b, hv, hb, ?_, fun n => ?_⟩
  · have := h1 0 (by omega)
    simp only [Nat.zero_add, Nat.mul_one, Nat.add_zero] at this
    rw [this, u8s_get hi]
  · obtain ⟨b', hv', _, hw, hO, hS⟩ := h2 n
    rw [hv] at hv'; cases hv'
    simp only [Nat.mul_one, Nat.add_zero] at hw hO hS
    rw [over_one (by simp [u8s]; exact hi), u8s_set] at hw hO hS
    exact ⟨_, hw, by unfold Bytes; rw [List.length_set]; exact hO, hS⟩

/-- Bytes are laid behind one's own bytes. -/
theorem Bytes.app {H : Heap} {v y : V} {bs cs : List Nat} (h : Bytes H v bs) (hy : firsts H 1 y = some (cs.length, u8s cs)) (hl : bs.length + cs.length ≤ 1099511627776) :
    ∃ v' H', app H 1 1 v y = some (v', H') ∧ Bytes H' v' (bs ++ cs) ∧ Same (sb v) H H' ∧ (∀ b, sb v' b → sb v b ∨ H.next ≤ b) := by
  obtain ⟨v', H', h1, h2, h3⟩ := app_own (eb := 1) h hy (by simp [u8s]) (u8s_one cs) (by omega) (by omega)
  exact ⟨v', H', h1, by unfold Bytes; rw [List.length_append]; simpa [u8s] using h2, h3⟩

theorem Bytes.push {H : Heap} {v : V} {bs : List Nat} (h : Bytes H v bs) (b : Nat) (hl : bs.length ≤ 70368744177664) :
    ∃ v' H', Go.Ab.app (H.new (.cells [.int .u8 b] true)) 1 1 v (.sl (some (H.next, 0)) 1 1 1) = some (v', H') ∧ Bytes H' v' (bs ++ [b]) ∧ Same (sb v) H H' ∧ (∀ x, sb v' x → sb v x ∨ H.next ≤ x) := by
  obtain ⟨v', H', h1, h2, h3⟩ := app_one (eb := 1) (m := 1) (M := [.int .u8 (b : Nat)]) h rfl rfl (by omega) (by omega)
  exact ⟨v', H', h1, by unfold Bytes; rw [List.length_append]; simpa [u8s] using h2, h3⟩
/-- A byte that is new is told as a list of it. -/
theorem firsts_new (H : Heap) (L : List V) (e n : Nat) (h : L.length = n * e) : firsts (H.new (.cells L true)) e (.sl (some (H.next, 0)) n n e) = some (n, L) := by
  simp only [firsts, get_new, if_true, piece]; rw [if_pos (by omega), ← h]; simp

def LayI (H : Heap) (v : V) (l : List Bool) (n w : Nat) (k : IntKind) (m : Nat) (fr : Fr) (H' : Heap) : Prop :=
  ∃ v' dn, fr = ⟨[(0, v'), (1, .int .i64 (l ++ dn).length), (2, .int k n), (9, .int .i64 ((m : Int) - 1))], []⟩ ∧ m ≤ 64 ∧ dn.length ≤ 64 - m ∧ dn ++ bitsOf n m = bitsOf n w ∧
    Bytes H' v' (pack (l ++ dn)) ∧ Same (sb v) H H' ∧ ∀ b, sb v' b → sb v b ∨ H.next ≤ b

theorem lay64 {P : Prog} (hp : HasBits P) {H : Heap} {v : V} {l : List Bool} {n w : Nat} (ho : Bytes H v (pack l)) (hw : w ≤ 64) (hn : n < 2 ^ 64) (hl : l.length ≤ 1099511627776)
    {Q : Out → Heap → Prop} (hQ : ∀ v' H', Bytes H' v' (pack (l ++ bitsOf n w)) → Same (sb v) H H' → (∀ b, sb v' b → sb v b ∨ H.next ≤ b) → Q (.ret v') H') :
    Call P 1 [v, .int .i64 l.length, .int .u64 n, .int .i64 w] H Q := by
  refine call_of hp.h_bits_lay_uint64 rfl ?_
  simp -implicitDefEqProofs -dsimp (disch := omega) only [go_sem, Nat.reduceEqDiff, ↓reduceIte, Nat.reduceAdd, Nat.reduceMul, Nat.reduceSub, Nat.reduceLT, Nat.reduceLeDiff, Int.reduceLT, Int.reduceLE, Int.reduceEq, Int.reduceNeg, Int.reduceAdd, Int.reduceMul, Int.reduceSub, Int.reduceToNat, reduceCtorEq, w64]
  refine loop_inv (LayI H v l n w .u64) ?_ w _ _ ?_
  · rintro m fr H1 ⟨v1, dn, rfl, hm, hdl, hd, hb, hs, hf⟩
    have hL : (l ++ dn).length ≤ 1099511627776 + 64 := by simp; omega
    generalize hK : rnd (LayI H v l n w .u64) m = K
    generalize hlen : (l ++ dn).length = L at *
    simp -implicitDefEqProofs -dsimp (disch := omega) only [go_sem, Nat.reduceEqDiff, ↓reduceIte, Nat.reduceAdd, Nat.reduceMul, Nat.reduceSub, Nat.reduceLT, Nat.reduceLeDiff, Int.reduceLT, Int.reduceLE, Int.reduceEq, Int.reduceNeg, Int.reduceAdd, Int.reduceMul, Int.reduceSub, Int.reduceToNat, reduceCtorEq, w64, bits_lay_uint64_l0, tmodN, tdivN]
    refine lif_dec (fun h1 => ?_) (fun h1 => ?_)
    · obtain ⟨m, rfl⟩ : ∃ j, m = j + 1 := ⟨m - 1, by omega⟩
      have em : ((m + 1 : Nat) : Int) - 1 = m := by omega
      simp -implicitDefEqProofs -dsimp (disch := omega) only [go_sem, Nat.reduceEqDiff, ↓reduceIte, Nat.reduceAdd, Nat.reduceMul, Nat.reduceSub, Nat.reduceLT, Nat.reduceLeDiff, Int.reduceLT, Int.reduceLE, Int.reduceEq, Int.reduceNeg, Int.reduceAdd, Int.reduceMul, Int.reduceSub, Int.reduceToNat, reduceCtorEq, w64, tmodN, tdivN, em]
      refine lif_join (fun fr' H' => ∃ v2 bs ex, fr' = ⟨(0, v2) :: (1, .int .i64 L) :: (2, .int .u64 n) :: (9, .int .i64 m) :: ex, []⟩ ∧ Bytes H' v2 bs ∧ Same (sb v) H H' ∧ (∀ b, sb v2 b → sb v b ∨ H.next ≤ b) ∧
        ∃ h : L / 8 < bs.length, bs[L / 8] % 2 ^ (8 - L % 8) = 0 ∧ bs[L / 8] < 256 ∧ ∀ c : Bool, pack (l ++ dn ++ [c]) = bs.set (L / 8) (bs[L / 8] + c.toNat * 2 ^ (7 - L % 8))) ?_ ?_
      · refine lif_dec (fun h2 => ?_) (fun h2 => ?_)
        · simp -implicitDefEqProofs -dsimp (disch := omega) only [go_sem, Nat.reduceEqDiff, ↓reduceIte, Nat.reduceAdd, Nat.reduceMul, Nat.reduceSub, Nat.reduceLT, Nat.reduceLeDiff, Int.reduceLT, Int.reduceLE, Int.reduceEq, Int.reduceNeg, Int.reduceAdd, Int.reduceMul, Int.reduceSub, Int.reduceToNat, reduceCtorEq, w64, tmodN, tdivN, em]
          have hb1 : Bytes (H1.new (.cells [.int .u8 0] true)) v1 (pack (l ++ dn)) := Own.same hb (Same.new (fun _ => False) _ _) (fun _ _ h => h)
          have hL2 : (pack (l ++ dn)).length = L / 8 := by rw [pack_length, hlen]; omega
          obtain ⟨v2, H2, ha, hb2, hs2, hf2⟩ := hb1.app (cs := [0]) (firsts_new H1 [.int .u8 0] 1 1 rfl) (by rw [hL2]; simp; omega)
          rw [ha]
          simp -implicitDefEqProofs -dsimp (disch := omega) only [go_sem, Nat.reduceEqDiff, ↓reduceIte, Nat.reduceAdd, Nat.reduceMul, Nat.reduceSub, Nat.reduceLT, Nat.reduceLeDiff, Int.reduceLT, Int.reduceLE, Int.reduceEq, Int.reduceNeg, Int.reduceAdd, Int.reduceMul, Int.reduceSub, Int.reduceToNat, reduceCtorEq, w64, tmodN, tdivN, em]
          refine ⟨v2, _, [], rfl, hb2, ?_, ?_, ?_⟩
          · refine (hs.trans (Same.new (sb v) _ _) fun _ _ h => h).trans hs2 fun b hbl hb => ?_
            exact (hf b hb).resolve_right (by have := hs.le; omega)
          · intro b hb
            rcases hf2 b hb with h | h
            · exact hf b h
            · have := hs.le; simp only [next_new] at h; exact Or.inr (by omega)
          · refine ⟨by simp [hL2], ?_, ?_, fun c => ?_⟩
            · simp [List.getElem_append_right, hL2]
            · simp [List.getElem_append_right, hL2]
            · rw [pack_snoc_new c (by omega), hlen]; simp [List.getElem_append_right, hL2]
        · simp -implicitDefEqProofs -dsimp (disch := omega) only [go_sem, Nat.reduceEqDiff, ↓reduceIte, Nat.reduceAdd, Nat.reduceMul, Nat.reduceSub, Nat.reduceLT, Nat.reduceLeDiff, Int.reduceLT, Int.reduceLE, Int.reduceEq, Int.reduceNeg, Int.reduceAdd, Int.reduceMul, Int.reduceSub, Int.reduceToNat, reduceCtorEq, w64, tmodN, tdivN, em]
          have hL2 : (pack (l ++ dn)).length = L / 8 + 1 := by rw [pack_length, hlen]; omega
          have hg : (pack (l ++ dn))[L / 8]? = some (byteAt (l ++ dn) (L / 8)) := pack_get (by rw [hlen]; omega)
          obtain ⟨hi, hg⟩ := List.getElem?_eq_some_iff.1 hg
          refine ⟨v1, _, _, rfl, hb, hs, hf, hi, ?_, ?_, fun c => ?_⟩
          · rw [hg, ← hlen]; exact byteAt_low (by omega)
          · rw [hg]; exact byteAt_lt _ _
          · rw [pack_snoc_in c (by omega), hlen, hg]
      · rintro _ H2 ⟨v2, bs, ex, rfl, hb2, hs2, hf2, hi, hlow, hlt, hset⟩
        obtain ⟨b, rfl, hbl, hrd, hwr⟩ := hb2.rw hi
        simp -implicitDefEqProofs -dsimp (disch := omega) only [go_sem, Nat.reduceEqDiff, ↓reduceIte, Nat.reduceAdd, Nat.reduceMul, Nat.reduceSub, Nat.reduceLT, Nat.reduceLeDiff, Int.reduceLT, Int.reduceLE, Int.reduceEq, Int.reduceNeg, Int.reduceAdd, Int.reduceMul, Int.reduceSub, Int.reduceToNat, reduceCtorEq, w64, tmodN, tdivN, em, cdiv8, cmod8, Int.toNat_natCast, Nat.mul_one, hrd, shr64]
        have hc := Bool.toNat_le (n.testBit m)
        rw [bit64 m hn, wu8 (by omega), lay_byte (by omega) hlow hlt hc]
        obtain ⟨H3, hw3, hb3, hs3⟩ := hwr (bs[L / 8] + (n.testBit m).toNat * 2 ^ (7 - L % 8))
        rw [hw3]
        subst hK
        simp -implicitDefEqProofs -dsimp (disch := omega) only [go_sem, Nat.reduceEqDiff, ↓reduceIte, Nat.reduceAdd, Nat.reduceMul, Nat.reduceSub, Nat.reduceLT, Nat.reduceLeDiff, Int.reduceLT, Int.reduceLE, Int.reduceEq, Int.reduceNeg, Int.reduceAdd, Int.reduceMul, Int.reduceSub, Int.reduceToNat, reduceCtorEq, w64, em]
        refine rnd_n m (by omega) ⟨_, dn ++ [n.testBit m], ?_, by omega, by simp; omega, ?_, ?_, ?_, hf2⟩
        · simp [← hlen]; omega
        · rw [List.append_assoc]; exact hd
        · rw [← List.append_assoc, hset]; exact hb3
        · exact hs2.trans hs3 fun b' hbl' hb' => (hf2 b' hb').resolve_right (by have := hbl'; omega)
    · obtain rfl : m = 0 := by omega
      subst hK
      simp -implicitDefEqProofs -dsimp (disch := omega) only [go_sem, Nat.reduceEqDiff, ↓reduceIte, Nat.reduceAdd, Nat.reduceMul, Nat.reduceSub, Nat.reduceLT, Nat.reduceLeDiff, Int.reduceLT, Int.reduceLE, Int.reduceEq, Int.reduceNeg, Int.reduceAdd, Int.reduceMul, Int.reduceSub, Int.reduceToNat, reduceCtorEq, w64]
      refine hQ v1 H1 ?_ hs hf
      rw [← hd]; simpa [bitsOf] using hb
  · exact ⟨v, [], by simp, hw, by simp, by simp, by simpa using ho, Same.refl _ _, fun b hb => Or.inl hb⟩
theorem lay8 {P : Prog} (hp : HasBits P) {H : Heap} {v : V} {l : List Bool} {n w : Nat} (ho : Bytes H v (pack l)) (hw : w ≤ 64) (hn : n < 256) (hl : l.length ≤ 1099511627776)
    {Q : Out → Heap → Prop} (hQ : ∀ v' H', Bytes H' v' (pack (l ++ bitsOf n w)) → Same (sb v) H H' → (∀ b, sb v' b → sb v b ∨ H.next ≤ b) → Q (.ret v') H') :
    Call P 0 [v, .int .i64 l.length, .int .u8 n, .int .i64 w] H Q := by
  refine call_of hp.h_bits_lay_uint8 rfl ?_
  simp -implicitDefEqProofs -dsimp (disch := omega) only [go_sem, Nat.reduceEqDiff, ↓reduceIte, Nat.reduceAdd, Nat.reduceMul, Nat.reduceSub, Nat.reduceLT, Nat.reduceLeDiff, Int.reduceLT, Int.reduceLE, Int.reduceEq, Int.reduceNeg, Int.reduceAdd, Int.reduceMul, Int.reduceSub, Int.reduceToNat, reduceCtorEq, w64]
  refine loop_inv (LayI H v l n w .u8) ?_ w _ _ ?_
  · rintro m fr H1 ⟨v1, dn, rfl, hm, hdl, hd, hb, hs, hf⟩
    have hL : (l ++ dn).length ≤ 1099511627776 + 64 := by simp; omega
    generalize hK : rnd (LayI H v l n w .u8) m = K
    generalize hlen : (l ++ dn).length = L at *
    simp -implicitDefEqProofs -dsimp (disch := omega) only [go_sem, Nat.reduceEqDiff, ↓reduceIte, Nat.reduceAdd, Nat.reduceMul, Nat.reduceSub, Nat.reduceLT, Nat.reduceLeDiff, Int.reduceLT, Int.reduceLE, Int.reduceEq, Int.reduceNeg, Int.reduceAdd, Int.reduceMul, Int.reduceSub, Int.reduceToNat, reduceCtorEq, w64, bits_lay_uint8_l0, tmodN, tdivN]
    refine lif_dec (fun h1 => ?_) (fun h1 => ?_)
    · obtain ⟨m, rfl⟩ : ∃ j, m = j + 1 := ⟨m - 1, by omega⟩
      have em : ((m + 1 : Nat) : Int) - 1 = m := by omega
      simp -implicitDefEqProofs -dsimp (disch := omega) only [go_sem, Nat.reduceEqDiff, ↓reduceIte, Nat.reduceAdd, Nat.reduceMul, Nat.reduceSub, Nat.reduceLT, Nat.reduceLeDiff, Int.reduceLT, Int.reduceLE, Int.reduceEq, Int.reduceNeg, Int.reduceAdd, Int.reduceMul, Int.reduceSub, Int.reduceToNat, reduceCtorEq, w64, tmodN, tdivN, em]
      refine lif_join (fun fr' H' => ∃ v2 bs ex, fr' = ⟨(0, v2) :: (1, .int .i64 L) :: (2, .int .u8 n) :: (9, .int .i64 m) :: ex, []⟩ ∧ Bytes H' v2 bs ∧ Same (sb v) H H' ∧ (∀ b, sb v2 b → sb v b ∨ H.next ≤ b) ∧
        ∃ h : L / 8 < bs.length, bs[L / 8] % 2 ^ (8 - L % 8) = 0 ∧ bs[L / 8] < 256 ∧ ∀ c : Bool, pack (l ++ dn ++ [c]) = bs.set (L / 8) (bs[L / 8] + c.toNat * 2 ^ (7 - L % 8))) ?_ ?_
      · refine lif_dec (fun h2 => ?_) (fun h2 => ?_)
        · simp -implicitDefEqProofs -dsimp (disch := omega) only [go_sem, Nat.reduceEqDiff, ↓reduceIte, Nat.reduceAdd, Nat.reduceMul, Nat.reduceSub, Nat.reduceLT, Nat.reduceLeDiff, Int.reduceLT, Int.reduceLE, Int.reduceEq, Int.reduceNeg, Int.reduceAdd, Int.reduceMul, Int.reduceSub, Int.reduceToNat, reduceCtorEq, w64, tmodN, tdivN, em]
          have hb1 : Bytes (H1.new (.cells [.int .u8 0] true)) v1 (pack (l ++ dn)) := Own.same hb (Same.new (fun _ => False) _ _) (fun _ _ h => h)
          have hL2 : (pack (l ++ dn)).length = L / 8 := by rw [pack_length, hlen]; omega
          obtain ⟨v2, H2, ha, hb2, hs2, hf2⟩ := hb1.app (cs := [0]) (firsts_new H1 [.int .u8 0] 1 1 rfl) (by rw [hL2]; simp; omega)
          rw [ha]
          simp -implicitDefEqProofs -dsimp (disch := omega) only [go_sem, Nat.reduceEqDiff, ↓reduceIte, Nat.reduceAdd, Nat.reduceMul, Nat.reduceSub, Nat.reduceLT, Nat.reduceLeDiff, Int.reduceLT, Int.reduceLE, Int.reduceEq, Int.reduceNeg, Int.reduceAdd, Int.reduceMul, Int.reduceSub, Int.reduceToNat, reduceCtorEq, w64, tmodN, tdivN, em]
          refine ⟨v2, _, [], rfl, hb2, ?_, ?_, ?_⟩
          · refine (hs.trans (Same.new (sb v) _ _) fun _ _ h => h).trans hs2 fun b hbl hb => ?_
            exact (hf b hb).resolve_right (by have := hs.le; omega)
          · intro b hb
            rcases hf2 b hb with h | h
            · exact hf b h
            · have := hs.le; simp only [next_new] at h; exact Or.inr (by omega)
          · refine ⟨by simp [hL2], ?_, ?_, fun c => ?_⟩
            · simp [List.getElem_append_right, hL2]
            · simp [List.getElem_append_right, hL2]
            · rw [pack_snoc_new c (by omega), hlen]; simp [List.getElem_append_right, hL2]
        · simp -implicitDefEqProofs -dsimp (disch := omega) only [go_sem, Nat.reduceEqDiff, ↓reduceIte, Nat.reduceAdd, Nat.reduceMul, Nat.reduceSub, Nat.reduceLT, Nat.reduceLeDiff, Int.reduceLT, Int.reduceLE, Int.reduceEq, Int.reduceNeg, Int.reduceAdd, Int.reduceMul, Int.reduceSub, Int.reduceToNat, reduceCtorEq, w64, tmodN, tdivN, em]
          have hL2 : (pack (l ++ dn)).length = L / 8 + 1 := by rw [pack_length, hlen]; omega
          have hg : (pack (l ++ dn))[L / 8]? = some (byteAt (l ++ dn) (L / 8)) := pack_get (by rw [hlen]; omega)
          obtain ⟨hi, hg⟩ := List.getElem?_eq_some_iff.1 hg
          refine ⟨v1, _, _, rfl, hb, hs, hf, hi, ?_, ?_, fun c => ?_⟩
          · rw [hg, ← hlen]; exact byteAt_low (by omega)
          · rw [hg]; exact byteAt_lt _ _
          · rw [pack_snoc_in c (by omega), hlen, hg]
      · rintro _ H2 ⟨v2, bs, ex, rfl, hb2, hs2, hf2, hi, hlow, hlt, hset⟩
        obtain ⟨b, rfl, hbl, hrd, hwr⟩ := hb2.rw hi
        simp -implicitDefEqProofs -dsimp (disch := omega) only [go_sem, Nat.reduceEqDiff, ↓reduceIte, Nat.reduceAdd, Nat.reduceMul, Nat.reduceSub, Nat.reduceLT, Nat.reduceLeDiff, Int.reduceLT, Int.reduceLE, Int.reduceEq, Int.reduceNeg, Int.reduceAdd, Int.reduceMul, Int.reduceSub, Int.reduceToNat, reduceCtorEq, w64, tmodN, tdivN, em, cdiv8, cmod8, Int.toNat_natCast, Nat.mul_one, hrd, shr8]
        have hc := Bool.toNat_le (n.testBit m)
        rw [bit8 m hn, lay_byte (by omega) hlow hlt hc]
        obtain ⟨H3, hw3, hb3, hs3⟩ := hwr (bs[L / 8] + (n.testBit m).toNat * 2 ^ (7 - L % 8))
        rw [hw3]
        subst hK
        simp -implicitDefEqProofs -dsimp (disch := omega) only [go_sem, Nat.reduceEqDiff, ↓reduceIte, Nat.reduceAdd, Nat.reduceMul, Nat.reduceSub, Nat.reduceLT, Nat.reduceLeDiff, Int.reduceLT, Int.reduceLE, Int.reduceEq, Int.reduceNeg, Int.reduceAdd, Int.reduceMul, Int.reduceSub, Int.reduceToNat, reduceCtorEq, w64, em]
        refine rnd_n m (by omega) ⟨_, dn ++ [n.testBit m], ?_, by omega, by simp; omega, ?_, ?_, ?_, hf2⟩
        · simp [← hlen]; omega
        · rw [List.append_assoc]; exact hd
        · rw [← List.append_assoc, hset]; exact hb3
        · exact hs2.trans hs3 fun b' hbl' hb' => (hf2 b' hb').resolve_right (by have := hbl'; omega)
    · obtain rfl : m = 0 := by omega
      subst hK
      simp -implicitDefEqProofs -dsimp (disch := omega) only [go_sem, Nat.reduceEqDiff, ↓reduceIte, Nat.reduceAdd, Nat.reduceMul, Nat.reduceSub, Nat.reduceLT, Nat.reduceLeDiff, Int.reduceLT, Int.reduceLE, Int.reduceEq, Int.reduceNeg, Int.reduceAdd, Int.reduceMul, Int.reduceSub, Int.reduceToNat, reduceCtorEq, w64]
      refine hQ v1 H1 ?_ hs hf
      rw [← hd]; simpa [bitsOf] using hb
  · exact ⟨v, [], by simp, hw, by simp, by simp, by simpa using ho, Same.refl _ _, fun b hb => Or.inl hb⟩

/-- A byte that is read. -/
theorem arr_byte {H : Heap} {v : V} {bs : List Nat} (h : Arr H v 1 bs.length (u8s bs)) {i : Nat} (hi : i < bs.length) : ∃ b o c, v = .sl (some (b, o)) bs.length c 1 ∧ rd H none b (o + i) = some (.int .u8 (bs[i] : Nat)) := by
  obtain ⟨b, o, c, hv, hb, h1, _⟩ := h.at hi
  have := h1 0 (by omega)
  simp only [Nat.mul_one, Nat.add_zero] at this
  exact ⟨b, o, c, hv, by rw [this, u8s_get hi]⟩

def ToldI (H : Heap) (v : V) (bs : List Nat) (a w : Nat) (k : IntKind) (m : Nat) (fr : Fr) (H' : Heap) : Prop :=
  ∃ i, m = w - i ∧ i ≤ w ∧ fr = ⟨[(0, v), (1, .int .i64 a), (7, .int k (toldN bs a i)), (9, .int .i64 w), (10, .int .i64 i)], []⟩ ∧ H' = H

theorem told64 {P : Prog} (hp : HasBits P) {H : Heap} {v : V} {bs : List Nat} {a w : Nat} (hb : Arr H v 1 bs.length (u8s bs)) (hlt : ∀ b ∈ bs, b < 256) (hw : w ≤ 64) (ha : a + w ≤ 8 * bs.length) (hl : bs.length ≤ 281474976710656)
    {Q : Out → Heap → Prop} (hQ : Q (.ret (.int .u64 (toldN bs a w))) H) : Call P 2 [v, .int .i64 a, .int .i64 w] H Q := by
  refine call_of hp.h_bits_told_uint64 rfl ?_
  simp -implicitDefEqProofs -dsimp (disch := omega) only [go_sem, Nat.reduceEqDiff, ↓reduceIte, Nat.reduceAdd, Nat.reduceMul, Nat.reduceSub, Nat.reduceLT, Nat.reduceLeDiff, Int.reduceLT, Int.reduceLE, Int.reduceEq, Int.reduceNeg, Int.reduceAdd, Int.reduceMul, Int.reduceSub, Int.reduceToNat, reduceCtorEq, w64]
  refine loop_inv (ToldI H v bs a w .u64) ?_ w _ _ ⟨0, by omega, by omega, rfl, rfl⟩
  rintro m fr H1 ⟨i, hm, hi, rfl, rfl⟩
  generalize hK : rnd (ToldI H1 v bs a w .u64) m = K
  simp -implicitDefEqProofs -dsimp (disch := omega) only [go_sem, Nat.reduceEqDiff, ↓reduceIte, Nat.reduceAdd, Nat.reduceMul, Nat.reduceSub, Nat.reduceLT, Nat.reduceLeDiff, Int.reduceLT, Int.reduceLE, Int.reduceEq, Int.reduceNeg, Int.reduceAdd, Int.reduceMul, Int.reduceSub, Int.reduceToNat, reduceCtorEq, w64, bits_told_uint64_l0]
  refine lif_dec (fun h1 => ?_) (fun h1 => ?_)
  · have hj : (a + i) / 8 < bs.length := by omega
    obtain ⟨b, o, c, rfl, hrd⟩ := arr_byte hb hj
    have hbl : bs[(a + i) / 8] < 256 := hlt _ (List.getElem_mem hj)
    have hc := Bool.toNat_le (bitAt bs (a + i))
    have ht : toldN bs a i < 9223372036854775808 := Nat.lt_of_lt_of_le (toldN_lt bs a i) (Nat.le_trans (Nat.pow_le_pow_right (by omega) (show i ≤ 63 by omega)) (by decide))
    simp -implicitDefEqProofs -dsimp (disch := omega) only [go_sem, Nat.reduceEqDiff, ↓reduceIte, Nat.reduceAdd, Nat.reduceMul, Nat.reduceSub, Nat.reduceLT, Nat.reduceLeDiff, Int.reduceLT, Int.reduceLE, Int.reduceEq, Int.reduceNeg, Int.reduceAdd, Int.reduceMul, Int.reduceSub, Int.reduceToNat, reduceCtorEq, w64, tmodN, tdivN, cadd, cdiv8, cmod8, Int.toNat_natCast, Nat.mul_one, hrd, sub7, shr8, bit8, ← bitAt_get, wu64, told_step64]
    subst hK
    refine rnd_n (w - (i + 1)) (by omega) ⟨i + 1, rfl, by omega, rfl, rfl⟩
  · obtain rfl : i = w := by omega
    subst hK
    simp -implicitDefEqProofs -dsimp (disch := omega) only [go_sem, Nat.reduceEqDiff, ↓reduceIte, Nat.reduceAdd, Nat.reduceMul, Nat.reduceSub, Nat.reduceLT, Nat.reduceLeDiff, Int.reduceLT, Int.reduceLE, Int.reduceEq, Int.reduceNeg, Int.reduceAdd, Int.reduceMul, Int.reduceSub, Int.reduceToNat, reduceCtorEq, w64]
    exact hQ
theorem told8 {P : Prog} (hp : HasBits P) {H : Heap} {v : V} {bs : List Nat} {a w : Nat} (hb : Arr H v 1 bs.length (u8s bs)) (hlt : ∀ b ∈ bs, b < 256) (hw : w ≤ 8) (ha : a + w ≤ 8 * bs.length) (hl : bs.length ≤ 281474976710656)
    {Q : Out → Heap → Prop} (hQ : Q (.ret (.int .u8 (toldN bs a w))) H) : Call P 3 [v, .int .i64 a, .int .i64 w] H Q := by
  refine call_of hp.h_bits_told_uint8 rfl ?_
  simp -implicitDefEqProofs -dsimp (disch := omega) only [go_sem, Nat.reduceEqDiff, ↓reduceIte, Nat.reduceAdd, Nat.reduceMul, Nat.reduceSub, Nat.reduceLT, Nat.reduceLeDiff, Int.reduceLT, Int.reduceLE, Int.reduceEq, Int.reduceNeg, Int.reduceAdd, Int.reduceMul, Int.reduceSub, Int.reduceToNat, reduceCtorEq, w64]
  refine loop_inv (ToldI H v bs a w .u8) ?_ w _ _ ⟨0, by omega, by omega, rfl, rfl⟩
  rintro m fr H1 ⟨i, hm, hi, rfl, rfl⟩
  generalize hK : rnd (ToldI H1 v bs a w .u8) m = K
  simp -implicitDefEqProofs -dsimp (disch := omega) only [go_sem, Nat.reduceEqDiff, ↓reduceIte, Nat.reduceAdd, Nat.reduceMul, Nat.reduceSub, Nat.reduceLT, Nat.reduceLeDiff, Int.reduceLT, Int.reduceLE, Int.reduceEq, Int.reduceNeg, Int.reduceAdd, Int.reduceMul, Int.reduceSub, Int.reduceToNat, reduceCtorEq, w64, bits_told_uint8_l0]
  refine lif_dec (fun h1 => ?_) (fun h1 => ?_)
  · have hj : (a + i) / 8 < bs.length := by omega
    obtain ⟨b, o, c, rfl, hrd⟩ := arr_byte hb hj
    have hbl : bs[(a + i) / 8] < 256 := hlt _ (List.getElem_mem hj)
    have hc := Bool.toNat_le (bitAt bs (a + i))
    have ht : toldN bs a i < 128 := Nat.lt_of_lt_of_le (toldN_lt bs a i) (Nat.le_trans (Nat.pow_le_pow_right (by omega) (show i ≤ 7 by omega)) (by decide))
    simp -implicitDefEqProofs -dsimp (disch := omega) only [go_sem, Nat.reduceEqDiff, ↓reduceIte, Nat.reduceAdd, Nat.reduceMul, Nat.reduceSub, Nat.reduceLT, Nat.reduceLeDiff, Int.reduceLT, Int.reduceLE, Int.reduceEq, Int.reduceNeg, Int.reduceAdd, Int.reduceMul, Int.reduceSub, Int.reduceToNat, reduceCtorEq, w64, tmodN, tdivN, cadd, cdiv8, cmod8, Int.toNat_natCast, Nat.mul_one, hrd, sub7, shr8, bit8, ← bitAt_get, wu8, told_step8]
    subst hK
    refine rnd_n (w - (i + 1)) (by omega) ⟨i + 1, rfl, by omega, rfl, rfl⟩
  · obtain rfl : i = w := by omega
    subst hK
    simp -implicitDefEqProofs -dsimp (disch := omega) only [go_sem, Nat.reduceEqDiff, ↓reduceIte, Nat.reduceAdd, Nat.reduceMul, Nat.reduceSub, Nat.reduceLT, Nat.reduceLeDiff, Int.reduceLT, Int.reduceLE, Int.reduceEq, Int.reduceNeg, Int.reduceAdd, Int.reduceMul, Int.reduceSub, Int.reduceToNat, reduceCtorEq, w64]
    exact hQ
end Go.Ab
