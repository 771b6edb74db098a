/- A law's segments are read; a header that is cut, at each place. Conditions: none. -/
import Derived.Test.YtnpdnkmnnmmagaaSr
import Derived.Test.YtnpdnkmnnmmagaaPL16Back
set_option linter.all false
namespace Go.Ab
theorem sg_rd {H : Heap} {b o c : Nat} {l : List SgO} (h : Arr H (.sl (some (b, o)) l.length c 7) 7 l.length (sgCells l)) {i : Nat} (hi : i < l.length) :
    rd H (some 7) b (o + i * 7) = some (.agg l[i].cs) ∧ ∀ k, k < 7 → rd H none b (o + i * 7 + k) = l[i].cs[k]? := by
  refine ⟨by rw [h.agg hi, sgCells_at hi], fun k hk => ?_⟩
  rw [h.rdm hi hk, ← sgCells_at hi, List.getElem?_take, if_pos hk, List.getElem?_drop]
section
variable {P : Prog} {H : Heap} {T : List As} {Q : Out → Heap → Prop}
def bk1F (b1 i : Nat) (fv bv : V) (k : Nat) : Fr := ⟨[(1, .ptr (some (b1, 0))), (3, .int .i64 (i : Nat)), (4, fv), (6, bv), (12, .int .i64 (k : Nat))], []⟩
theorem back_l1 (hp : HasSeg P) (hb : HasBits P) {b1 i : Nat} {lv mv av fv bv : V} {s : Sg} {x y : List Nat} (hm : May s) (hx : ∀ b ∈ x, b < 256) (hy : ∀ b ∈ y, b < 256) (hxl : x.length ≤ 2000) (hyl : y.length ≤ 2000)
    (hA : ∀ H', Hs H' T → H'.get b1 = .cells [lv, av, mv] true ∧ Arr H' av 1 x.length (u8s x) ∧ Arr H' fv 1 (hdr s).length (u8s (hdr s)) ∧ Arr H' bv 1 (x ++ hdr s ++ y).length (u8s (x ++ hdr s ++ y)))
    (hs : Hs H T) {Qp : Post} {s' t'} (h1 : ∀ H' ex, Hs H' T → Qp (.exit 2) ⟨(1, .ptr (some (b1, 0))) :: (3, .int .i64 (i : Nat)) :: ex, []⟩ H') :
    loopL (Call P) [1, 3, 4, 6, 12] burinlaw16_SegmentBack_l1 Qp s' t' (bk1F b1 i fv bv 0) H := by
  refine loop_dec (σ := Nat) (fun k => (hdr s).length - k) (bk1F b1 i fv bv) (fun k H => Hs H T) (fun k H K h hn hx1 hx2 => ?_) 0 H hs
  obtain ⟨hc, ha, hf, hbv⟩ := hA H h
  have rc := rd_s hc
  have hl := hdr_len hm
  have hk8 : s.kind.toNat < 256 := by have := hm.kind; unfold kindOk at this; omega
  obtain ⟨aa, ac, ae, rfl⟩ := ha.shape
  obtain ⟨fa, fc, fe, rfl⟩ := hf.shape
  unfold bk1F at hn ⊢
  by_cases hlt : k < (hdr s).length
  · have hbl : (x ++ hdr s ++ y).length = x.length + (hdr s).length + y.length := by simp only [List.length_append]
    obtain ⟨bb, bo, bc, rfl⟩ := hbv.at0 (by omega)
    have hcap := hbv.cap.1
    have htk := hbv.take (k := x.length + k) (by omega)
    rw [Nat.mul_one, show (u8s (x ++ hdr s ++ y)).take (x.length + k) = u8s (x ++ (hdr s).take k) by
      unfold u8s
      rw [← List.map_take, List.append_assoc, List.take_append, List.take_of_length_le (by omega), Nat.add_sub_cancel_left, List.take_append_of_le_length (by omega)]] at htk
    have hlen : (x ++ (hdr s).take k).length = x.length + k := by rw [List.length_append, List.length_take]; omega
    have e1 : (x.length : Int) + (k : Nat) = ((x.length + k : Nat) : Int) := by omega
    simp -implicitDefEqProofs -dsimp (disch := omega) only [go_sem, Nat.reduceEqDiff, ↓reduceIte, Nat.reduceAdd, Nat.reduceMul, Nat.reduceSub, Nat.reduceLT, Nat.reduceLeDiff, Int.reduceLT, Int.reduceLE, Int.reduceEq, Int.reduceNeg, Int.reduceAdd, Int.reduceMul, Int.reduceSub, Int.reduceToNat, reduceCtorEq, dec_t, dec_f, burinlaw16_SegmentBack_l1, rc, w64, e1, Int.toNat_natCast]
    refine decode_ct (f := x ++ (hdr s).take k) (p := (x.length : Nat)) hp hb (by unfold r64; omega) (by rw [hlen]; exact htk) (fun b hb => ?_) (by omega) h (fun s len a v1 v2 H' e => ?_) (fun e H' k2 g => ?_)
    · rcases List.mem_append.1 hb with hb | hb
      · exact hx b hb
      · exact hdr_lt hk8 b (List.mem_of_mem_take hb)
    · rw [dec_cut hm x hlt] at e; cases e
    · rw [dec_cut hm x hlt] at k2
      cases k2
      have e2 : (k : Int) + 1 + ((hdr s).length : Int) / 40 = ((k + 1 + (hdr s).length / 40 : Nat) : Int) := by omega
      have e3 : ((hdr s).length : Int) / 40 = (((hdr s).length / 40 : Nat) : Int) := rfl
      simp -implicitDefEqProofs -dsimp (disch := omega) only [go_sem, Nat.reduceEqDiff, ↓reduceIte, Nat.reduceAdd, Nat.reduceMul, Nat.reduceSub, Nat.reduceLT, Nat.reduceLeDiff, Int.reduceLT, Int.reduceLE, Int.reduceEq, Int.reduceNeg, Int.reduceAdd, Int.reduceMul, Int.reduceSub, Int.reduceToNat, reduceCtorEq, dec_t, dec_f, tdivN, w64, e2]
      exact hn _ _ (by omega) g
  · simp -implicitDefEqProofs -dsimp (disch := omega) only [go_sem, Nat.reduceEqDiff, ↓reduceIte, Nat.reduceAdd, Nat.reduceMul, Nat.reduceSub, Nat.reduceLT, Nat.reduceLeDiff, Int.reduceLT, Int.reduceLE, Int.reduceEq, Int.reduceNeg, Int.reduceAdd, Int.reduceMul, Int.reduceSub, Int.reduceToNat, reduceCtorEq, dec_t, dec_f, burinlaw16_SegmentBack_l1]
    rw [hx1]
    exact h1 H _ h
end
end Go.Ab
