/- A piece alone is one piece. Conditions: none. -/
import Derived.Test.YtfgecfbknpifjaaPi
set_option linter.all false
namespace Go.Ab
theorem rowsOf_congr {p q : Nat → Nat → Bool} {w h : Nat} (e : ∀ x y, x < w → y < h → p x y = q x y) : rowsOf p w h = rowsOf q w h := by
  unfold rowsOf
  refine List.map_congr_left fun y hy => rl_congr w fun x hx => e x y hx (List.mem_range.1 hy)
theorem pcs_congr {p q : Nat → Nat → Bool} {w h : Nat} (e : ∀ x y, x < w → y < h → p x y = q x y) : pcsOf p w h = pcsOf q w h := by
  unfold pcsOf; rw [rowsOf_congr e]
variable {p : Nat → Nat → Bool} {w h : Nat}
/-- **A piece alone is one piece, at 0, 0.** -/
theorem piece_one {P : PcP} (hP : P ∈ pcsOf p w h) : (pcsOf (pixOf P.w (Wds P.w P.h P.p)) P.w P.h).map PcP.key = [((0 : Int), (0 : Int), ((P.w : Nat) : Int), ((P.h : Nat) : Int), Wds P.w P.h P.p)] := by
  obtain ⟨b, hb, rfl⟩ := List.mem_map.1 hP
  rw [pcs_congr (q := b.pc.p) fun x y hx hy => pixOf_Wds _ hx hy]
  obtain ⟨F, hF, hFl⟩ := fst_rho (rowsOf p w h) h
  have hat := boxes_at hF (pl_mono (rows := rowsOf p w h) h) (allPl (rowsOf p w h) h).length (Nat.le_refl _) b hb
  have hok := (boxes_ok (ρ := rhoF (rowsOf p w h) h) (pl_ok (p := p) (w := w) (h := h)) (pl_mono h) (allPl (rowsOf p w h) h).length b hb).1
  obtain ⟨o1, o2, o3, o4, o5, o6⟩ := hok
  -- a pixel of one of its runs
  have at_ : ∀ z ∈ b.l, ∀ X : Nat, z.1.1 ≤ (X : Int) → (X : Int) < z.1.2 → blk_ (boxPx b) (b.r - b.x).toNat (b.b - b.y) (X - b.x.toNat) (z.2 - b.y) ∧ b.x.toNat ≤ X ∧ b.y ≤ z.2 := fun z hz X h1 h2 => by
    obtain ⟨k, hk, e, er⟩ := (boxes_in hF _ (Nat.le_refl _) b hb z).1 hz
    have hin : inRun (allPl (rowsOf p w h) h) k X z.2 := ⟨z.1, e, h1, h2⟩
    obtain ⟨_, m2, m3, m4, m5⟩ := in_box hF hb hin er
    refine ⟨⟨by omega, by omega, (boxPx_iff hF hb o1 _ _).2 ⟨k, ?_, er⟩⟩, by omega, m4⟩
    rw [show b.x.toNat + (X - b.x.toNat) = X by omega, show b.y + (z.2 - b.y) = z.2 by omega]; exact hin
  obtain ⟨zx, x1, x2⟩ := hat.xa
  obtain ⟨zr, r1, r2⟩ := hat.ra
  obtain ⟨zb, b1, b2⟩ := hat.ba
  obtain ⟨t1, t2, zt, t3, t4⟩ := hat.root
  have zt' := (boxes_in hF _ (Nat.le_refl _) b hb zt).2 ⟨b.root, t1, t3, t2⟩
  have px := o6 zx x1
  have pr := o6 zr r1
  have pb := o6 zb b1
  have pt := o6 zt zt'
  unfold plOk at px pr pb pt
  refine one_box (q := boxPx b) (W := (b.r - b.x).toNat) (Ht := b.b - b.y) (fun i j i' j' h1 h2 => piece_con hF hb h1.2.2 h2.2.2) ?_ ?_ ?_ ?_
  · obtain ⟨g1, g2, g3⟩ := at_ zx x1 zx.1.1.toNat (by omega) (by omega)
    rw [show zx.1.1.toNat - b.x.toNat = 0 by omega] at g1
    exact ⟨_, g1⟩
  · obtain ⟨g1, g2, g3⟩ := at_ zr r1 (zr.1.2 - 1).toNat (by omega) (by omega)
    rw [show (zr.1.2 - 1).toNat - b.x.toNat = (b.r - b.x).toNat - 1 by omega] at g1
    exact ⟨_, g1⟩
  · obtain ⟨g1, g2, g3⟩ := at_ zt zt' zt.1.1.toNat (by omega) (by omega)
    rw [show zt.2 - b.y = 0 by omega] at g1
    exact ⟨_, g1⟩
  · obtain ⟨g1, g2, g3⟩ := at_ zb b1 zb.1.1.toNat (by omega) (by omega)
    rw [show zb.2 - b.y = b.b - b.y - 1 by omega] at g1
    exact ⟨_, g1⟩
end Go.Ab
