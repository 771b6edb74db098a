/- The program's ends. Conditions: none. -/
import Derived.Test.YtfgecfbknpifjaaRa
set_option linter.all false
namespace Go.Ab
section
variable {P : Prog} {H : Heap} {R : List As} {Q : Out → Heap → Prop}
/-- Pixels of a row's words. -/
def rwB (ws : List Nat) (z : Nat) : Bool := wb (ws.getD (z / 64) 0) (z % 64)
theorem ends_ct (hp : HasRu P) {row : V} {ws : List Nat} {w x : Nat} {black : Bool} (hr : Arr H row 1 ws.length (u64s ws)) (hl : ws.length = wds w) (hb : ∀ n ∈ ws, n < 18446744073709551616) (hw : 1 ≤ w ∧ w ≤ 1048576) (hx : x ≤ w)
    (hQ : ∀ e : Nat, IsNx (fun z => rwB ws z != black) w x e → Q (.ret (.int .i64 e)) H) : Call P 114 [row, .int .i64 w, .int .i64 x, .bool black] H Q := by
  refine call_of hp.h_runs_ends rfl ?_
  have hwd : 0 < wds w := by unfold wds; omega
  obtain ⟨rb, ro, rc, rfl⟩ := hr.at0 (by omega)
  simp -implicitDefEqProofs -dsimp (disch := omega) only [go_sem, dec_t, dec_f, ]
  have fin : ∀ x' : Nat, x ≤ x' → (∀ z, x ≤ z → z < x' → z < w → (rwB ws z != black) = false) → (x' < w → (rwB ws x' != black) = true) → Q (.ret (.int .i64 (if (w : Int) < x' then (w : Int) else x'))) H := by
    intro x' h1 h2 h3
    by_cases c : (w : Int) < x'
    · rw [if_pos c]; exact hQ w ⟨hx, Nat.le_refl _, fun z a b => h2 z a (by omega) b, fun h => by omega⟩
    · rw [if_neg c]; exact hQ x' ⟨h1, by omega, fun z a b => h2 z a b (by omega), h3⟩
  refine loop_dec (σ := Nat) (fun x' => w - x') (fun x' => ⟨[(0, .sl (some (rb, ro)) ws.length rc 1), (1, .int .i64 w), (2, .int .i64 (x' : Nat)), (3, .bool black)], []⟩)
    (fun x' H' => H = H' ∧ x ≤ x' ∧ ∀ z, x ≤ z → z < x' → z < w → (rwB ws z != black) = false) (fun x' H1 K ⟨hH, h1, h2⟩ hn hx' hrr => ?_) x H ⟨rfl, Nat.le_refl _, fun z a b => by omega⟩
  subst hH
  by_cases c : x' < w
  · have hi : x' / 64 < ws.length := by rw [hl]; exact wds_of c
    have hrd : rd H none rb (ro + x' / 64) = some (.int .u64 (ws.getD (x' / 64) 0 : Nat)) := by
      rw [hr.rd1 hi]
      simp only [u64s, List.getElem?_map, List.getD_eq_getElem?_getD, List.getElem?_eq_getElem hi]; rfl
    have hv : ws.getD (x' / 64) 0 < 18446744073709551616 := by
      rw [List.getD_eq_getElem?_getD, List.getElem?_eq_getElem hi]; exact hb _ (List.getElem_mem _)
    generalize hwv : ws.getD (x' / 64) 0 = v at hrd hv
    have ed : (x' : Int) / 64 = ((x' / 64 : Nat) : Int) := rfl
    have em : (x' : Int) % 64 = ((x' % 64 : Nat) : Int) := rfl
    obtain ⟨u, hu, hub⟩ : ∃ u : Nat, u < 18446744073709551616 ∧ u = if black then inv v else v := ⟨_, by split <;> first | exact inv_lt hv | exact hv, rfl⟩
    have hg : ∀ j, j < 64 → (wb v j != black) = wb u j := by
      intro j hj
      rw [hub]
      cases black
      · simp
      · simp [wb_inv hj]
    have hsl : x' % 64 ≤ 64 := by omega
    have h64 := modw_lt (u * 2 ^ (x' % 64))
    have hnx := lz_nx h64
    have hbl : bl (u * 2 ^ (x' % 64) % 18446744073709551616) ≤ 64 := bl_le h64
    have hgz : ∀ j, x' % 64 + j < 64 → (rwB ws (x' + j) != black) = wb (u * 2 ^ (x' % 64) % 18446744073709551616) j := by
      intro j hj
      unfold rwB
      rw [show (x' + j) / 64 = x' / 64 by omega, show (x' + j) % 64 = x' % 64 + j by omega, hwv, hg _ hj, wb_shl (show j < 64 by omega), decide_eq_true (by omega), Bool.true_and, Nat.add_comm]
    have step : wpC (Call P) runs_ends_l0 K ⟨[(0, .sl (some (rb, ro)) ws.length rc 1), (1, .int .i64 w), (2, .int .i64 (x' : Nat)), (3, .bool black)], []⟩ H := by
      cases black
      · obtain rfl : u = v := by simpa using hub
        simp -implicitDefEqProofs -dsimp (disch := omega) only [go_sem, dec_t, dec_f, runs_ends_l0, tdivN, tmodN, ed, em, w64, Int.toNat_natCast, Nat.mul_one, hrd, shlw]
        refine lz_ct hp h64 ?_
        by_cases k : 64 - x' % 64 ≤ 64 - bl (u * 2 ^ (x' % 64) % 18446744073709551616)
        · simp -implicitDefEqProofs -dsimp (disch := omega) only [go_sem, dec_t, dec_f, tdivN, tmodN, ed, em, w64]
          rw [show (((x' / 64 : Nat) : Int) + 1) * 64 = (((x' / 64 + 1) * 64 : Nat) : Int) by omega]
          refine hn ((x' / 64 + 1) * 64) H (by omega) ⟨rfl, by omega, fun z a b d => ?_⟩
          by_cases e : z < x'
          · exact h2 z a e d
          · have := hgz (z - x') (by omega)
            rw [show x' + (z - x') = z by omega] at this
            rw [this]; exact hnx.no _ (by omega) (by omega)
        · simp -implicitDefEqProofs -dsimp (disch := omega) only [go_sem, dec_t, dec_f, tdivN, tmodN, ed, em, w64]
          rw [hx', show (x' : Int) + ((64 - bl (u * 2 ^ (x' % 64) % 18446744073709551616) : Nat) : Int) = ((x' + (64 - bl (u * 2 ^ (x' % 64) % 18446744073709551616)) : Nat) : Int) by omega]
          simp -implicitDefEqProofs -dsimp (disch := omega) only [go_sem, dec_t, dec_f, ]
          refine fin _ (by omega) (fun z a b d => ?_) fun _ => ?_
          · by_cases e : z < x'
            · exact h2 z a e d
            · have := hgz (z - x') (by omega)
              rw [show x' + (z - x') = z by omega] at this
              rw [this]; exact hnx.no _ (by omega) (by omega)
          · rw [hgz _ (by omega)]; exact hnx.yes (by omega)
      · obtain rfl : u = inv v := by simpa using hub
        have nv := not64 hv
        simp -implicitDefEqProofs -dsimp (disch := omega) only [go_sem, dec_t, dec_f, runs_ends_l0, tdivN, tmodN, ed, em, w64, Int.toNat_natCast, Nat.mul_one, hrd, nv, shlw]
        refine lz_ct hp h64 ?_
        by_cases k : 64 - x' % 64 ≤ 64 - bl (inv v * 2 ^ (x' % 64) % 18446744073709551616)
        · simp -implicitDefEqProofs -dsimp (disch := omega) only [go_sem, dec_t, dec_f, tdivN, tmodN, ed, em, w64]
          rw [show (((x' / 64 : Nat) : Int) + 1) * 64 = (((x' / 64 + 1) * 64 : Nat) : Int) by omega]
          refine hn ((x' / 64 + 1) * 64) H (by omega) ⟨rfl, by omega, fun z a b d => ?_⟩
          by_cases e : z < x'
          · exact h2 z a e d
          · have := hgz (z - x') (by omega)
            rw [show x' + (z - x') = z by omega] at this
            rw [this]; exact hnx.no _ (by omega) (by omega)
        · simp -implicitDefEqProofs -dsimp (disch := omega) only [go_sem, dec_t, dec_f, tdivN, tmodN, ed, em, w64]
          rw [hx', show (x' : Int) + ((64 - bl (inv v * 2 ^ (x' % 64) % 18446744073709551616) : Nat) : Int) = ((x' + (64 - bl (inv v * 2 ^ (x' % 64) % 18446744073709551616)) : Nat) : Int) by omega]
          simp -implicitDefEqProofs -dsimp (disch := omega) only [go_sem, dec_t, dec_f, ]
          refine fin _ (by omega) (fun z a b d => ?_) fun _ => ?_
          · by_cases e : z < x'
            · exact h2 z a e d
            · have := hgz (z - x') (by omega)
              rw [show x' + (z - x') = z by omega] at this
              rw [this]; exact hnx.no _ (by omega) (by omega)
          · rw [hgz _ (by omega)]; exact hnx.yes (by omega)
    exact step
  · simp -implicitDefEqProofs -dsimp (disch := omega) only [go_sem, dec_t, dec_f, runs_ends_l0]
    rw [hx']
    simp -implicitDefEqProofs -dsimp (disch := omega) only [go_sem, dec_t, dec_f, ]
    exact fin x' h1 h2 fun h => absurd h c
end
end Go.Ab
