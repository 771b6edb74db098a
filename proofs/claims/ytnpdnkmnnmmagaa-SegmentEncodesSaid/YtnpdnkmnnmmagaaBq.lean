/- The law BitsVars: any numbers, written and read. Conditions: none. -/
import Derived.Test.YtnpdnkmnnmmagaaBn
import Derived.Test.YtnpdnkmnnmmagaaBp
import Derived.Test.YtnpdnkmnnmmagaaK4
set_option linter.all false
namespace Go.Ab

structure HasL1 (P : Prog) : Prop where
  bits : HasBits P
  ref : HasRefBits P
  kit : HasKit P
  law : HasLawBits P

theorem wakes {P : Prog} (hp : HasL1 P) {H : Heap} {Q : Out → Heap → Prop} (hQ : ∀ H', Same (fun _ => False) H H' → Q (.ret (.bool true)) H') : Call P 32 [] H Q :=
  wakes_ct hp.bits hp.kit.h_burinref0_Eq hp.law.h_burinlaw1_wakes hQ

def BvI (H : Heap) (v : V) (ns : List Nat) (m : Nat) (fr : Fr) (H' : Heap) : Prop :=
  ∃ i : Nat, m = ns.length - i ∧ i ≤ ns.length ∧ i ≤ 60 ∧ fr = ⟨[(0, v), (3, .int .i64 i)], []⟩ ∧ Same (fun _ => False) H H'
/-- Counting a number's groups. -/
def BvC (n : Nat) (H : Heap) (ex : List (Nat × V)) (m : Nat) (fr : Fr) (H' : Heap) : Prop :=
  ∃ x k : Nat, m = x ∧ x < 18446744073709551616 ∧ k + cnt x = (groups n).length ∧ 1 ≤ k ∧ k ≤ 10 ∧ fr = ⟨(ex ++ [(7, .int .i64 k), (8, .int .u64 x)]), []⟩ ∧ H' = H
def BvK (H : Heap) (v y : V) (i : Int) (n : Nat) (m : Nat) (fr : Fr) (H' : Heap) : Prop :=
  ∃ k : Nat, m = (groups n).length - k ∧ k ≤ (groups n).length ∧ fr = ⟨[(0, v), (3, .int .i64 i), (6, y), (12, .int .i64 k)], []⟩ ∧ Same (fun _ => False) H H' ∧ Bytes H' y (groups n)

theorem bitsVars {P : Prog} (hp : HasL1 P) {H : Heap} {v : V} {ns : List Nat} (hx : Arr H v 1 ns.length (u64s ns)) (hs : ∀ n ∈ ns, n < 18446744073709551616) (hl : ns.length ≤ 140737488351232) :
    Call P 33 [v] H fun o _ => o = .ret (.bool true) := by
  obtain ⟨a, c, e', rfl⟩ := hx.shape
  refine call_of hp.law.h_burinlaw1_BitsVars rfl ?_
  simp -implicitDefEqProofs -dsimp (disch := omega) only [go_sem, Nat.reduceEqDiff, ↓reduceIte, Nat.reduceAdd, Nat.reduceMul, Nat.reduceSub, Nat.reduceLT, Nat.reduceLeDiff, Int.reduceLT, Int.reduceLE, Int.reduceEq, Int.reduceNeg, Int.reduceAdd, Int.reduceMul, Int.reduceSub, Int.reduceToNat, reduceCtorEq, ]
  refine loop_inv (BvI H _ ns) ?_ ns.length _ _ ⟨0, by omega, by omega, by omega, rfl, Same.refl _ _⟩
  rintro m fr H1 ⟨i, hm, hi, hi60, rfl, s1⟩
  generalize hK : rnd (BvI H _ ns) m = K
  have hx1 := hx.same s1 (fun _ _ h => h)
  have last : ∀ {H1 : Heap} {Q : Out → Heap → Prop}, (∀ H', Q (.ret (.bool true)) H') → Call P 32 [] H1 Q := fun h => wakes hp fun _ _ => h _
  simp -implicitDefEqProofs -dsimp (disch := omega) only [go_sem, Nat.reduceEqDiff, ↓reduceIte, Nat.reduceAdd, Nat.reduceMul, Nat.reduceSub, Nat.reduceLT, Nat.reduceLeDiff, Int.reduceLT, Int.reduceLE, Int.reduceEq, Int.reduceNeg, Int.reduceAdd, Int.reduceMul, Int.reduceSub, Int.reduceToNat, reduceCtorEq, burinlaw1_BitsVars_l0]
  refine lif_dec (fun h1 => ?_) (fun h1 => ?_)
  · have hil : i < ns.length := by omega
    simp -implicitDefEqProofs -dsimp (disch := omega) only [go_sem, Nat.reduceEqDiff, ↓reduceIte, Nat.reduceAdd, Nat.reduceMul, Nat.reduceSub, Nat.reduceLT, Nat.reduceLeDiff, Int.reduceLT, Int.reduceLE, Int.reduceEq, Int.reduceNeg, Int.reduceAdd, Int.reduceMul, Int.reduceSub, Int.reduceToNat, reduceCtorEq, h1]
    refine lif_dec (fun h2 => ?_) (fun h2 => ?_)
    · obtain ⟨b3, o3, c3, hv3⟩ := hx1.at0 (by omega)
      cases hv3
      have hn : ns[i] < 18446744073709551616 := hs _ (List.getElem_mem hil)
      have rdn : ∀ {H'}, Same (fun _ => False) H H' → rd H' none b3 (o3 + i) = some (.int .u64 (ns[i] : Nat)) := fun s => by
        rw [(hx.same s (fun _ _ h => h)).rd1 hil]; simp [u64s, hil]
      generalize ns[i] = n at rdn hn
      have hg10 := groups_le hn
      have hgl := groups_len n
      simp -implicitDefEqProofs -dsimp (disch := omega) only [go_sem, Nat.reduceEqDiff, ↓reduceIte, Nat.reduceAdd, Nat.reduceMul, Nat.reduceSub, Nat.reduceLT, Nat.reduceLeDiff, Int.reduceLT, Int.reduceLE, Int.reduceEq, Int.reduceNeg, Int.reduceAdd, Int.reduceMul, Int.reduceSub, Int.reduceToNat, reduceCtorEq, ]
      refine newWriter hp.bits (m := 20) (by omega) (fun h => by omega) (fun _ _ H2 w2 s2 => ?_)
      have s02 : Same (fun _ => False) H H2 := s1.trans s2 fun _ _ h => h
      simp -implicitDefEqProofs -dsimp (disch := omega) only [go_sem, Nat.reduceEqDiff, ↓reduceIte, Nat.reduceAdd, Nat.reduceMul, Nat.reduceSub, Nat.reduceLT, Nat.reduceLeDiff, Int.reduceLT, Int.reduceLE, Int.reduceEq, Int.reduceNeg, Int.reduceAdd, Int.reduceMul, Int.reduceSub, Int.reduceToNat, reduceCtorEq, Int.toNat_natCast, Nat.mul_one, rdn s02]
      refine wVar_ct hp.bits (n := n) w2 hn (fun v3 H3 w3 s3 f3 => ?_)
      generalize h4 : wVar [] (Int.toNat 20) n = p4 at w3 ⊢
      obtain rfl : p4 = (0, bytesBits (groups n)) := h4.symm.trans (by rw [wVar, if_neg (by simp; omega)]; rfl)
      have s03 : Same (fun _ => False) H H3 := s02.trans s3 fun b hb h => h.elim (fun e => by have := s1.le; omega) (fun h => h.elim)
      simp -implicitDefEqProofs -dsimp (disch := omega) only [go_sem, Nat.reduceEqDiff, ↓reduceIte, Nat.reduceAdd, Nat.reduceMul, Nat.reduceSub, Nat.reduceLT, Nat.reduceLeDiff, Int.reduceLT, Int.reduceLE, Int.reduceEq, Int.reduceNeg, Int.reduceAdd, Int.reduceMul, Int.reduceSub, Int.reduceToNat, reduceCtorEq, ]
      refine wBytes hp.bits w3 (fun v4 H4 b4 s4 f4 => ?_)
      rw [pack_bytes (groups_lt n)] at b4
      have s04 : Same (fun _ => False) H H4 := s03.trans s4 fun _ _ h => h
      simp -implicitDefEqProofs -dsimp (disch := omega) only [go_sem, Nat.reduceEqDiff, ↓reduceIte, Nat.reduceAdd, Nat.reduceMul, Nat.reduceSub, Nat.reduceLT, Nat.reduceLeDiff, Int.reduceLT, Int.reduceLE, Int.reduceEq, Int.reduceNeg, Int.reduceAdd, Int.reduceMul, Int.reduceSub, Int.reduceToNat, reduceCtorEq, Int.toNat_natCast, Nat.mul_one, rdn s04, shr64_7 hn]
      refine loop_inv (BvC n H4 [(0, _), (3, _), (6, v4)]) ?_ _ _ _ ⟨n / 128, 1, rfl, by omega, by omega, by omega, by omega, rfl, rfl⟩
      · rintro m2 fr2 H5 ⟨x, k, hm2, hx2, hk2, hk3, hk4, rfl, rfl⟩
        generalize hK2 : rnd (BvC n H5 [(0, _), (3, _), (6, v4)]) m2 = K2
        simp -implicitDefEqProofs -dsimp (disch := omega) only [go_sem, Nat.reduceEqDiff, ↓reduceIte, Nat.reduceAdd, Nat.reduceMul, Nat.reduceSub, Nat.reduceLT, Nat.reduceLeDiff, Int.reduceLT, Int.reduceLE, Int.reduceEq, Int.reduceNeg, Int.reduceAdd, Int.reduceMul, Int.reduceSub, Int.reduceToNat, reduceCtorEq, burinlaw1_BitsVars_l2]
        refine lif_dec (fun h5 => ?_) (fun h5 => ?_)
        · have hc := cnt_pos (n := x) (by omega)
          have hcl := cnt_le 9 x
          simp -implicitDefEqProofs -dsimp (disch := omega) only [go_sem, Nat.reduceEqDiff, ↓reduceIte, Nat.reduceAdd, Nat.reduceMul, Nat.reduceSub, Nat.reduceLT, Nat.reduceLeDiff, Int.reduceLT, Int.reduceLE, Int.reduceEq, Int.reduceNeg, Int.reduceAdd, Int.reduceMul, Int.reduceSub, Int.reduceToNat, reduceCtorEq, w64, shr64_7 hx2, cadd1]
          subst hK2
          refine rnd_n (x / 128) (by omega) ⟨x / 128, k + 1, rfl, by omega, by omega, by omega, by omega, rfl, rfl⟩
        · have hx0 : x = 0 := by omega
          subst hx0
          rw [cnt_zero, Nat.add_zero] at hk2
          subst hk2
          subst hK2
          simp -implicitDefEqProofs -dsimp (disch := omega) only [go_sem, Nat.reduceEqDiff, ↓reduceIte, Nat.reduceAdd, Nat.reduceMul, Nat.reduceSub, Nat.reduceLT, Nat.reduceLeDiff, Int.reduceLT, Int.reduceLE, Int.reduceEq, Int.reduceNeg, Int.reduceAdd, Int.reduceMul, Int.reduceSub, Int.reduceToNat, reduceCtorEq, ]
          refine copy_ct hp.kit.h_burinref0_Copy b4.arr (by omega) (fun v6 H6 b6 s6 f6 => ?_)
          obtain ⟨v7, H7, a7, b7, s7, f7⟩ := b6.push 255 (by omega)
          rw [show ((255 : Nat) : Int) = 255 from rfl] at a7
          have s67 : Same (fun _ => False) H5 H7 := s6.trans s7 fun b hb h => absurd (f6 b h) (by omega)
          simp -implicitDefEqProofs -dsimp (disch := omega) only [go_sem, Nat.reduceEqDiff, ↓reduceIte, Nat.reduceAdd, Nat.reduceMul, Nat.reduceSub, Nat.reduceLT, Nat.reduceLeDiff, Int.reduceLT, Int.reduceLE, Int.reduceEq, Int.reduceNeg, Int.reduceAdd, Int.reduceMul, Int.reduceSub, Int.reduceToNat, reduceCtorEq, a7]
          have hg8 : ∀ b ∈ groups n ++ [255], b < 256 := fun b hb => by
            rcases List.mem_append.1 hb with h | h
            · exact groups_lt n b h
            · simp at h; omega
          refine newReader hp.bits (bs := groups n ++ [255]) b7.arr hg8 (by simp; omega) (fun r v8 H8 r8 s8 f8 g8 => ?_)
          have s08 : Same (fun _ => False) H H8 := ((s04.trans s67 fun _ _ h => h).trans s8 fun _ _ h => h)
          have b48 : Bytes H8 v4 (groups n) := b4.same (s67.trans s8 fun _ _ h => h) (fun _ _ h => h)
          obtain ⟨a4, c4, e4, hv4⟩ := b4.arr.shape
          subst hv4
          simp -implicitDefEqProofs -dsimp (disch := omega) only [go_sem, Nat.reduceEqDiff, ↓reduceIte, Nat.reduceAdd, Nat.reduceMul, Nat.reduceSub, Nat.reduceLT, Nat.reduceLeDiff, Int.reduceLT, Int.reduceLE, Int.reduceEq, Int.reduceNeg, Int.reduceAdd, Int.reduceMul, Int.reduceSub, Int.reduceToNat, reduceCtorEq, ]
          refine rVar_ct hp.bits r8 (fun H9 r9 s9 => ?_)
          have s09 : Same (fun _ => False) H H9 := s08.trans s9 fun b hb h => by have : b = r := h; have := s04.le; have := s67.le; omega
          have b49 : Bytes H9 (.sl a4 (groups n).length c4 e4) (groups n) := b48.same s9 fun b hb h => by
            have : b = r := h
            have := b4.lt hb
            have := s67.le; omega
          have hv := rVar_pack (l := bytesBits (groups n ++ [255])) (p := []) (q := bytesBits [255]) (n := n) (by simp [bytesBits]) hn
          rw [pack_bytes hg8, List.length_nil, Nat.zero_add] at hv
          generalize h9 : rVar (groups n ++ [255]) 0 = p9 at r9 ⊢
          obtain rfl : p9 = (n, 0, 8 * (groups n).length) := h9.symm.trans hv
          clear h9
          dsimp only at r9
          simp -implicitDefEqProofs -dsimp (disch := omega) only [go_sem, Nat.reduceEqDiff, ↓reduceIte, Nat.reduceAdd, Nat.reduceMul, Nat.reduceSub, Nat.reduceLT, Nat.reduceLeDiff, Int.reduceLT, Int.reduceLE, Int.reduceEq, Int.reduceNeg, Int.reduceAdd, Int.reduceMul, Int.reduceSub, Int.reduceToNat, reduceCtorEq, Int.toNat_natCast, Nat.mul_one, rdn s09]
          refine rLeft hp.bits r9 ?_
          have e8 : 8 * (groups n ++ [255] : List Nat).length - 8 * (groups n).length = 8 := by rw [List.length_append, List.length_singleton]; omega
          rw [e8]
          simp -implicitDefEqProofs -dsimp (disch := omega) only [go_sem, Nat.reduceEqDiff, ↓reduceIte, Nat.reduceAdd, Nat.reduceMul, Nat.reduceSub, Nat.reduceLT, Nat.reduceLeDiff, Int.reduceLT, Int.reduceLE, Int.reduceEq, Int.reduceNeg, Int.reduceAdd, Int.reduceMul, Int.reduceSub, Int.reduceToNat, reduceCtorEq, show ((8 : Nat) : Int) = 8 from rfl]
          refine loop_inv (BvK H _ (.sl a4 (groups n).length c4 e4) i n) ?_ _ _ _ ⟨0, rfl, by omega, rfl, s09, b49⟩
          rintro m3 fr3 H10 ⟨k, hm3, hk3, rfl, s10, b10⟩
          generalize hK3 : rnd (BvK H _ _ _ n) m3 = K3
          simp -implicitDefEqProofs -dsimp (disch := omega) only [go_sem, Nat.reduceEqDiff, ↓reduceIte, Nat.reduceAdd, Nat.reduceMul, Nat.reduceSub, Nat.reduceLT, Nat.reduceLeDiff, Int.reduceLT, Int.reduceLE, Int.reduceEq, Int.reduceNeg, Int.reduceAdd, Int.reduceMul, Int.reduceSub, Int.reduceToNat, reduceCtorEq, burinlaw1_BitsVars_l1]
          refine lif_dec (fun h10 => ?_) (fun h10 => ?_)
          · have hkl : k < (groups n).length := by omega
            obtain ⟨b11, o11, c11, e11⟩ := b10.arr.at0 (by omega)
            cases e11
            have hcap := b10.arr.cap.1
            simp -implicitDefEqProofs -dsimp (disch := omega) only [go_sem, Nat.reduceEqDiff, ↓reduceIte, Nat.reduceAdd, Nat.reduceMul, Nat.reduceSub, Nat.reduceLT, Nat.reduceLeDiff, Int.reduceLT, Int.reduceLE, Int.reduceEq, Int.reduceNeg, Int.reduceAdd, Int.reduceMul, Int.reduceSub, Int.reduceToNat, reduceCtorEq, Int.toNat_natCast]
            have hlen : ((groups n).take k).length = k := by rw [List.length_take]; omega
            have harr : Arr H10 (.sl (some (b11, o11)) k c4 1) 1 ((groups n).take k).length (u8s ((groups n).take k)) := by
              have := b10.arr.take hk3
              rw [hlen]; simpa [u8s] using this
            refine newReader hp.bits harr (fun b hb => groups_lt n b (List.mem_of_mem_take hb)) (by omega) (fun r2 v12 H12 r12 s12 f12 g12 => ?_)
            simp -implicitDefEqProofs -dsimp (disch := omega) only [go_sem, Nat.reduceEqDiff, ↓reduceIte, Nat.reduceAdd, Nat.reduceMul, Nat.reduceSub, Nat.reduceLT, Nat.reduceLeDiff, Int.reduceLT, Int.reduceLE, Int.reduceEq, Int.reduceNeg, Int.reduceAdd, Int.reduceMul, Int.reduceSub, Int.reduceToNat, reduceCtorEq, ]
            refine rVar_ct hp.bits r12 (fun H13 r13 s13 => ?_)
            rw [rVar_cut hn hkl] at r13 ⊢
            simp -implicitDefEqProofs -dsimp (disch := omega) only [go_sem, Nat.reduceEqDiff, ↓reduceIte, Nat.reduceAdd, Nat.reduceMul, Nat.reduceSub, Nat.reduceLT, Nat.reduceLeDiff, Int.reduceLT, Int.reduceLE, Int.reduceEq, Int.reduceNeg, Int.reduceAdd, Int.reduceMul, Int.reduceSub, Int.reduceToNat, reduceCtorEq, ]
            refine rLeft hp.bits r13 ?_
            rw [hlen]
            have s1013 : Same (fun _ => False) H10 H13 := s12.trans s13 fun b hb h => by have : b = r2 := h; omega
            simp -implicitDefEqProofs -dsimp (disch := omega) only [go_sem, Nat.reduceEqDiff, ↓reduceIte, Nat.reduceAdd, Nat.reduceMul, Nat.reduceSub, Nat.reduceLT, Nat.reduceLeDiff, Int.reduceLT, Int.reduceLE, Int.reduceEq, Int.reduceNeg, Int.reduceAdd, Int.reduceMul, Int.reduceSub, Int.reduceToNat, reduceCtorEq, w64, cadd1, show ((8 * k - 0 : Nat) : Int) = 8 * (k : Int) by omega]
            subst hK3
            refine rnd_n ((groups n).length - (k + 1)) (by omega) ⟨k + 1, rfl, by omega, rfl, s10.trans s1013 fun _ _ h => h, b10.same s1013 fun _ _ h => h⟩
          · subst hK3
            simp -implicitDefEqProofs -dsimp (disch := omega) only [go_sem, Nat.reduceEqDiff, ↓reduceIte, Nat.reduceAdd, Nat.reduceMul, Nat.reduceSub, Nat.reduceLT, Nat.reduceLeDiff, Int.reduceLT, Int.reduceLE, Int.reduceEq, Int.reduceNeg, Int.reduceAdd, Int.reduceMul, Int.reduceSub, Int.reduceToNat, reduceCtorEq, w64, cadd1]
            subst hK
            exact rnd_n (ns.length - (i + 1)) (by omega) ⟨i + 1, rfl, by omega, by omega, rfl, s10⟩
    · subst hK
      simp -implicitDefEqProofs -dsimp (disch := omega) only [go_sem, Nat.reduceEqDiff, ↓reduceIte, Nat.reduceAdd, Nat.reduceMul, Nat.reduceSub, Nat.reduceLT, Nat.reduceLeDiff, Int.reduceLT, Int.reduceLE, Int.reduceEq, Int.reduceNeg, Int.reduceAdd, Int.reduceMul, Int.reduceSub, Int.reduceToNat, reduceCtorEq, ]
      exact last fun _ => by simp -implicitDefEqProofs -dsimp (disch := omega) only [go_sem, Nat.reduceEqDiff, ↓reduceIte, Nat.reduceAdd, Nat.reduceMul, Nat.reduceSub, Nat.reduceLT, Nat.reduceLeDiff, Int.reduceLT, Int.reduceLE, Int.reduceEq, Int.reduceNeg, Int.reduceAdd, Int.reduceMul, Int.reduceSub, Int.reduceToNat, reduceCtorEq, ]
  · simp -implicitDefEqProofs -dsimp (disch := omega) only [go_sem, Nat.reduceEqDiff, ↓reduceIte, Nat.reduceAdd, Nat.reduceMul, Nat.reduceSub, Nat.reduceLT, Nat.reduceLeDiff, Int.reduceLT, Int.reduceLE, Int.reduceEq, Int.reduceNeg, Int.reduceAdd, Int.reduceMul, Int.reduceSub, Int.reduceToNat, reduceCtorEq, h1]
    subst hK
    simp -implicitDefEqProofs -dsimp (disch := omega) only [go_sem, Nat.reduceEqDiff, ↓reduceIte, Nat.reduceAdd, Nat.reduceMul, Nat.reduceSub, Nat.reduceLT, Nat.reduceLeDiff, Int.reduceLT, Int.reduceLE, Int.reduceEq, Int.reduceNeg, Int.reduceAdd, Int.reduceMul, Int.reduceSub, Int.reduceToNat, reduceCtorEq, ]
    exact last fun _ => by simp -implicitDefEqProofs -dsimp (disch := omega) only [go_sem, Nat.reduceEqDiff, ↓reduceIte, Nat.reduceAdd, Nat.reduceMul, Nat.reduceSub, Nat.reduceLT, Nat.reduceLeDiff, Int.reduceLT, Int.reduceLE, Int.reduceEq, Int.reduceNeg, Int.reduceAdd, Int.reduceMul, Int.reduceSub, Int.reduceToNat, reduceCtorEq, ]
end Go.Ab
