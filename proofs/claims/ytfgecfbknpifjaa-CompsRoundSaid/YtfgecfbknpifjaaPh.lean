/- A piece alone: its pixels stay connected. Conditions: none. -/
import Derived.Test.YtfgecfbknpifjaaPg
set_option linter.all false
namespace Go.Ab
variable {p : Nat → Nat → Bool} {w h : Nat}
theorem in_box {F : List Nat} (hF : Fst F (rhoF (rowsOf p w h) h)) {b : BoxP} (hb : b ∈ boxes (rhoF (rowsOf p w h) h) (allPl (rowsOf p w h) h) (allPl (rowsOf p w h) h).length) {k X Y : Nat} (hk : inRun (allPl (rowsOf p w h) h) k X Y) (hr : rhoF (rowsOf p w h) h k = b.root) :
    0 ≤ b.x ∧ b.x ≤ X ∧ (X : Int) < b.r ∧ b.y ≤ Y ∧ Y < b.b := by
  have hat := boxes_at hF (pl_mono (rows := rowsOf p w h) h) (allPl (rowsOf p w h) h).length (Nat.le_refl _) b hb
  have hok := (boxes_ok (ρ := rhoF (rowsOf p w h) h) (pl_ok (p := p) (w := w) (h := h)) (pl_mono h) (allPl (rowsOf p w h) h).length b hb).1
  obtain ⟨u, e, k1, k2⟩ := hk
  have hkl := (List.getElem?_eq_some_iff.1 e).1
  have hmem := (boxes_in hF _ (Nat.le_refl _) b hb (u, Y)).2 ⟨k, hkl, e, hr⟩
  obtain ⟨g1, g2, g3⟩ := hat.hold _ hmem
  obtain ⟨_, _, q0, hq0, hqy⟩ := hat.root
  have hlo := hF.lo k
  rw [hr] at hlo
  have hby : b.y ≤ Y := by
    obtain ⟨z1, z2⟩ := List.getElem?_eq_some_iff.1 hq0
    obtain ⟨z3, z4⟩ := List.getElem?_eq_some_iff.1 e
    rcases Nat.lt_or_ge b.root k with q | q
    · have := List.pairwise_iff_getElem.1 (pl_mono (rows := rowsOf p w h) h) b.root k z1 z3 q
      rw [z2, z4] at this; rw [hqy]; exact this
    · have : b.root = k := by omega
      subst this
      rw [e] at hq0; cases hq0; omega
  dsimp only at g1 g2 g3
  exact ⟨hok.x0, by omega, by omega, hby, g3⟩
theorem con_move {F : List Nat} (hF : Fst F (rhoF (rowsOf p w h) h)) {b : BoxP} (hb : b ∈ boxes (rhoF (rowsOf p w h) h) (allPl (rowsOf p w h) h) (allPl (rowsOf p w h) h).length) {k x y : Nat} (hk : inRun (allPl (rowsOf p w h) h) k x y) (hr : rhoF (rowsOf p w h) h k = b.root)
    {x' y' : Nat} (hc : ConX p w h x y x' y') : ConX (boxPx b) (b.r - b.x).toNat (b.b - b.y) (x - b.x.toNat) (y - b.y) (x' - b.x.toNat) (y' - b.y) := by
  obtain ⟨n1, n2, n3, n4, n5⟩ := in_box hF hb hk hr
  induction hc with
  | refl => exact .refl
  | @step x1 y1 x2 y2 hc' hb' hn ih =>
    obtain ⟨k2, hk2⟩ := run_of hb'
    have r2 : rhoF (rowsOf p w h) h k2 = b.root := by rw [← hr]; exact ((rho_px hk hk2).2 (hc'.step hb' hn)).symm
    obtain ⟨_, m2, m3, m4, m5⟩ := in_box hF hb hk2 r2
    obtain ⟨k1, hk1⟩ : ∃ k1, inRun (allPl (rowsOf p w h) h) k1 x1 y1 := by
      cases hc' with
      | refl => exact ⟨k, hk⟩
      | step _ hb'' _ => exact run_of hb''
    have r1 : rhoF (rowsOf p w h) h k1 = b.root := by rw [← hr]; exact ((rho_px hk hk1).2 hc').symm
    obtain ⟨_, l2, l3, l4, l5⟩ := in_box hF hb hk1 r1
    obtain ⟨t1, t2, t3, t4⟩ := hn
    refine ih.step ⟨by omega, by omega, ?_⟩ ⟨by omega, by omega, by omega, by omega⟩
    rw [boxPx_iff hF hb n1]
    refine ⟨k2, ?_, r2⟩
    rw [show b.x.toNat + (x2 - b.x.toNat) = x2 by omega, show b.y + (y2 - b.y) = y2 by omega]
    exact hk2
/-- A piece's black pixels are all connected within it. -/
theorem piece_con {F : List Nat} (hF : Fst F (rhoF (rowsOf p w h) h)) {b : BoxP} (hb : b ∈ boxes (rhoF (rowsOf p w h) h) (allPl (rowsOf p w h) h) (allPl (rowsOf p w h) h).length) {i j i' j' : Nat}
    (h1 : boxPx b i j = true) (h2 : boxPx b i' j' = true) : ConX (boxPx b) (b.r - b.x).toNat (b.b - b.y) i j i' j' := by
  have hx := (boxes_ok (ρ := rhoF (rowsOf p w h) h) (pl_ok (p := p) (w := w) (h := h)) (pl_mono h) (allPl (rowsOf p w h) h).length b hb).1.x0
  obtain ⟨k, hk, r⟩ := (boxPx_iff hF hb hx i j).1 h1
  obtain ⟨k', hk', r'⟩ := (boxPx_iff hF hb hx i' j').1 h2
  have hc := (rho_px hk hk').1 (by rw [r, r'])
  have := con_move hF hb hk r hc
  rwa [show b.x.toNat + i - b.x.toNat = i by omega, show b.y + j - b.y = j by omega, show b.x.toNat + i' - b.x.toNat = i' by omega, show b.y + j' - b.y = j' by omega] at this
end Go.Ab
