/- The pieces, laid, are the bitmap. Conditions: none. -/
import Derived.Test.YtfgecfbknpifjaaPf
import Derived.Test.YtfgecfbknpifjaaTp
set_option linter.all false
namespace Go.Ab
theorem bk_fold {i j : Nat} : ∀ (L : List PcO) (f : Nat → Nat → Bool), (L.foldl (fun p o => blitP p (pixOf o.w.toNat o.ws) o.w.toNat o.h.toNat 0 0 o.w o.h o.x o.y 0) f) i j = true ↔
    f i j = true ∨ ∃ o ∈ L, (o.x ≤ i ∧ (i : Int) < o.x + o.w ∧ o.y ≤ j ∧ (j : Int) < o.y + o.h) ∧ pixOf o.w.toNat o.ws ((i : Int) - o.x).toNat ((j : Int) - o.y).toNat = true
  | [], f => by simp
  | o :: L, f => by
    rw [List.foldl_cons, bk_fold L]
    have e : blitP f (pixOf o.w.toNat o.ws) o.w.toNat o.h.toNat 0 0 o.w o.h o.x o.y 0 i j = true ↔ f i j = true ∨ ((o.x ≤ i ∧ (i : Int) < o.x + o.w ∧ o.y ≤ j ∧ (j : Int) < o.y + o.h) ∧ pixOf o.w.toNat o.ws ((i : Int) - o.x).toNat ((j : Int) - o.y).toNat = true) := by
      unfold blitP
      by_cases c : o.x ≤ i ∧ (i : Int) < o.x + o.w ∧ o.y ≤ j ∧ (j : Int) < o.y + o.h
      · rw [if_pos (by omega), Int.zero_add, Int.zero_add]
        unfold opB
        rw [if_pos rfl, Bool.or_eq_true]
        exact ⟨fun h => h.imp_right fun h => ⟨c, h⟩, fun h => h.imp_right fun h => h.2⟩
      · rw [if_neg (by omega)]
        exact ⟨.inl, fun h => h.elim id fun h => absurd h.1 c⟩
    rw [e]
    constructor
    · rintro ((h | h) | ⟨z, h1, h2⟩)
      · exact .inl h
      · exact .inr ⟨o, List.mem_cons_self .., h⟩
      · exact .inr ⟨z, List.mem_cons_of_mem _ h1, h2⟩
    · rintro (h | ⟨z, h1, h2⟩)
      · exact .inl (.inl h)
      · rcases List.mem_cons.1 h1 with rfl | h1
        · exact .inl (.inr h2)
        · exact .inr ⟨z, h1, h2⟩
theorem fst_row {F : List Nat} {ρ : Nat → Nat} (hF : Fst F ρ) : ∀ m, ∃ F', Fst F' ρ ∧ F'.length = F.length + m
  | 0 => ⟨F, hF, rfl⟩
  | m + 1 => by
    obtain ⟨F', h1, h2⟩ := fst_row hF m
    exact ⟨_, h1.app, by simp; omega⟩
theorem fst_jns : ∀ (J : List (Nat × Nat)) {F : List Nat} {ρ : Nat → Nat}, Fst F ρ → (∀ x ∈ J, x.1 < F.length ∧ x.2 < F.length) → ∃ F', Fst F' (jns ρ J) ∧ F'.length = F.length
  | [], F, _, h, _ => ⟨F, h, rfl⟩
  | x :: J, F, ρ, h, hb => by
    obtain ⟨b1, b2⟩ := hb x (List.mem_cons_self ..)
    obtain ⟨F', h1, h2⟩ := fst_jns J (h.join b1 b2) (fun y hy => by rw [List.length_set]; exact hb y (List.mem_cons_of_mem _ hy))
    exact ⟨F', h1, by rw [h2, List.length_set]⟩
theorem fst_rho (rows : List (List (Int × Int))) : ∀ y, ∃ F, Fst F (rhoF rows y) ∧ F.length = (allPl rows y).length
  | 0 => ⟨[], Fst.nil, rfl⟩
  | y + 1 => by
    obtain ⟨F, h1, h2⟩ := fst_rho rows y
    obtain ⟨F1, h3, h4⟩ := fst_row h1 (rows.getD y []).length
    have hl := allPl_succ rows y
    rw [rhoF]
    by_cases h : 0 < y
    · rw [if_pos h]
      have hoff : (allPl rows y).length = (allPl rows (y - 1)).length + (rows.getD (y - 1) []).length := by
        have := allPl_succ rows (y - 1)
        rwa [show y - 1 + 1 = y by omega] at this
      unfold tch
      rw [tchF_jns]
      obtain ⟨F2, h5, h6⟩ := fst_jns (tchJ (rows.getD (y - 1) []) (rows.getD y []) ((allPl rows y).length - (rows.getD (y - 1) []).length) (allPl rows y).length ((rows.getD (y - 1) []).length + (rows.getD y []).length) 0 0) h3 fun x hx => by
        obtain ⟨c, d, u, v, e1, e2, _, rfl⟩ := tchJ_in _ _ _ _ hx
        have c1 := (List.getElem?_eq_some_iff.1 e1).1
        have c2 := (List.getElem?_eq_some_iff.1 e2).1
        dsimp only
        omega
      exact ⟨F2, h5, by omega⟩
    · rw [if_neg h]
      exact ⟨F1, h3, by omega⟩
/-- **The pieces, laid, are the bitmap.** -/
theorem bk_pcs {p : Nat → Nat → Bool} {w h : Nat} {PR : List PcR} (hPR : PR.map PcR.p = pcsOf p w h) {i j : Nat} (hi : i < w) (hj : j < h) : bkPx (PR.map PcR.toO) i j = p i j := by
  obtain ⟨F, hF, hFl⟩ := fst_rho (rowsOf p w h) h
  have hok := boxes_ok (ρ := rhoF (rowsOf p w h) h) (pl_ok (p := p) (w := w) (h := h)) (pl_mono h) (allPl (rowsOf p w h) h).length
  have hat := boxes_at hF (pl_mono (rows := rowsOf p w h) h) (allPl (rowsOf p w h) h).length (Nat.le_refl _)
  have hro := (boxes_roots (PL := allPl (rowsOf p w h) h) hF _ (Nat.le_refl _)).2.2
  have iff_ : bkPx (PR.map PcR.toO) i j = true ↔ p i j = true := by
    unfold bkPx
    rw [bk_fold]
    constructor
    · rintro (q | ⟨o, h1, ⟨a1, a2, a3, a4⟩, h3⟩)
      · cases q
      · obtain ⟨r, hr, rfl⟩ := List.mem_map.1 h1
        have : r.p ∈ pcsOf p w h := by rw [← hPR]; exact List.mem_map_of_mem hr
        obtain ⟨b, hb, hbr⟩ := List.mem_map.1 this
        obtain ⟨o1, o2, o3, o4, o5, o6⟩ := (hok b hb).1
        simp only [PcR.toO, ← hbr, BoxP.pc] at a1 a2 a3 a4 h3
        rw [Int.toNat_natCast, pixOf_Wds _ (by omega) (by omega), boxPx_iff hF hb o1] at h3
        obtain ⟨k, hk, _⟩ := h3
        have := run_blk hk
        rw [show b.x.toNat + ((i : Int) - b.x).toNat = i by omega, show b.y + ((j : Int) - ((b.y : Nat) : Int)).toNat = j by omega] at this
        exact this.2.2
    · intro hp
      refine .inr ?_
      obtain ⟨k, hk⟩ := run_of (p := p) (w := w) (h := h) ⟨hi, hj, hp⟩
      have hkl : k < (allPl (rowsOf p w h) h).length := by obtain ⟨u, e, _⟩ := hk; exact (List.getElem?_eq_some_iff.1 e).1
      obtain ⟨b, hb, hbr⟩ := List.mem_map.1 (hro k hkl)
      obtain ⟨o1, o2, o3, o4, o5, o6⟩ := (hok b hb).1
      have hbp : b.pc ∈ pcsOf p w h := List.mem_map_of_mem hb
      rw [← hPR] at hbp
      obtain ⟨r, hr, hre⟩ := List.mem_map.1 hbp
      have hk' := hk
      obtain ⟨u, e, k1, k2⟩ := hk'
      have hmem := (boxes_in hF _ (Nat.le_refl _) b hb (u, j)).2 ⟨k, hkl, e, hbr.symm⟩
      obtain ⟨g1, g2, g3⟩ := (hat b hb).hold _ hmem
      have hy := (hat b hb).root
      obtain ⟨_, _, q0, hq0, hqy⟩ := hy
      have hby : b.y ≤ j := by
        have hlo := hF.lo k
        rw [← hbr] at hlo
        obtain ⟨z1, z2⟩ := List.getElem?_eq_some_iff.1 hq0
        obtain ⟨z3, z4⟩ := List.getElem?_eq_some_iff.1 e
        rcases Nat.lt_or_ge b.root k with q | q
        · have := List.pairwise_iff_getElem.1 (pl_mono (rows := rowsOf p w h) h) b.root k z1 z3 q
          rw [z2, z4] at this; rw [hqy]; exact this
        · have : b.root = k := by omega
          subst this
          rw [e] at hq0; cases hq0; omega
      dsimp only at g1 g2 g3
      refine ⟨r.toO, List.mem_map_of_mem hr, ?_⟩
      simp only [PcR.toO, hre, BoxP.pc]
      refine ⟨by omega, ?_⟩
      rw [Int.toNat_natCast, pixOf_Wds _ (by omega) (by omega), boxPx_iff hF hb o1]
      refine ⟨k, ?_, hbr.symm⟩
      rw [show b.x.toNat + ((i : Int) - b.x).toNat = i by omega, show b.y + ((j : Int) - ((b.y : Nat) : Int)).toNat = j by omega]
      exact hk
  cases h1 : bkPx (PR.map PcR.toO) i j <;> cases h2 : p i j <;> simp_all
end Go.Ab
