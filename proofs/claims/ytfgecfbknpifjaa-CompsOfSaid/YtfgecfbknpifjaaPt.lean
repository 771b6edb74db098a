/- A piece's box is the smallest; its pixels tell it whole. Conditions: none. -/
import Derived.Test.YtfgecfbknpifjaaPl
set_option linter.all false
namespace Go.Ab
structure Tight (P : PcP) : Prop where
  x0 : 0 ≤ P.x
  y0 : 0 ≤ P.y
  l : ∃ y, pin P P.x.toNat y = true
  r : ∃ y, pin P (P.x.toNat + P.w - 1) y = true
  t : ∃ x, pin P x P.y.toNat = true
  b : ∃ x, pin P x (P.y.toNat + P.h - 1) = true
theorem pinb {P : PcP} {x y : Nat} (k : pin P x y = true) : P.x.toNat ≤ x ∧ x < P.x.toNat + P.w ∧ P.y.toNat ≤ y ∧ y < P.y.toNat + P.h := by
  unfold pin at k
  rw [Bool.and_eq_true, decide_eq_true_eq] at k
  exact k.1
theorem tight_uniq {P Q : PcP} (hP : Tight P) (hQ : Tight Q) (e : ∀ x y, pin P x y = true ↔ pin Q x y = true) : P.key = Q.key := by
  obtain ⟨p1, p2, ⟨a1, p3⟩, ⟨a2, p4⟩, ⟨a3, p5⟩, ⟨a4, p6⟩⟩ := hP
  obtain ⟨q1, q2, ⟨b1, q3⟩, ⟨b2, q4⟩, ⟨b3, q5⟩, ⟨b4, q6⟩⟩ := hQ
  have P3 := pinb ((e _ _).1 p3)
  have P4 := pinb ((e _ _).1 p4)
  have P5 := pinb ((e _ _).1 p5)
  have P6 := pinb ((e _ _).1 p6)
  have Q3 := pinb ((e _ _).2 q3)
  have Q4 := pinb ((e _ _).2 q4)
  have Q5 := pinb ((e _ _).2 q5)
  have Q6 := pinb ((e _ _).2 q6)
  have z3 := pinb p3
  have z5 := pinb p5
  have ex : P.x.toNat = Q.x.toNat := by omega
  have ey : P.y.toNat = Q.y.toNat := by omega
  have ew : P.w = Q.w := by omega
  have eh : P.h = Q.h := by omega
  obtain ⟨px, py, pw, ph, pp⟩ := P
  obtain ⟨qx, qy, qw, qh, qp⟩ := Q
  dsimp only at *
  subst ew eh
  unfold PcP.key
  dsimp only
  rw [show px = qx by omega, show py = qy by omega]
  refine Prod.ext rfl (Prod.ext rfl (Prod.ext rfl (Prod.ext rfl (Wds_eq.2 fun x y hx hy => ?_))))
  have := e (px.toNat + x) (py.toNat + y)
  unfold pin at this
  dsimp only at this
  rw [decide_eq_true (by omega), decide_eq_true (by omega), Bool.true_and, Bool.true_and, ← ex, ← ey, show px.toNat + x - px.toNat = x by omega, show py.toNat + y - py.toNat = y by omega] at this
  cases h1 : pp x y <;> cases h2 : qp x y <;> simp_all
variable {p : Nat → Nat → Bool} {w h : Nat}
theorem pcs_tight {i : Nat} {P : PcP} (e : (pcsOf p w h)[i]? = some P) : Tight P := by
  have k := pcs_in (List.mem_of_getElem? e)
  have f := (pcs_first e).1
  obtain ⟨F, hF, _⟩ := fst_rho (rowsOf p w h) h
  obtain ⟨b, k1, rfl⟩ := pcs_at e
  have hb := List.mem_of_getElem? k1
  have hat := boxes_at hF (pl_mono (rows := rowsOf p w h) h) (allPl (rowsOf p w h) h).length (Nat.le_refl _) b hb
  obtain ⟨o1, o2, o3, o4, o5, o6⟩ := (boxes_ok (ρ := rhoF (rowsOf p w h) h) (pl_ok (p := p) (w := w) (h := h)) (pl_mono h) (allPl (rowsOf p w h) h).length b hb).1
  have at_ : ∀ z ∈ b.l, ∀ X : Nat, z.1.1 ≤ (X : Int) → (X : Int) < z.1.2 → pin b.pc X z.2 = true := fun z hz X h1 h2 => by
    obtain ⟨k, hk, e, er⟩ := (boxes_in hF _ (Nat.le_refl _) b hb z).1 hz
    exact (boxIn_iff hF hb _ _).2 ⟨k, ⟨z.1, e, h1, h2⟩, er⟩
  obtain ⟨zx, x1, x2⟩ := hat.xa
  obtain ⟨zr, r1, r2⟩ := hat.ra
  obtain ⟨zb, b1, b2⟩ := hat.ba
  have px := o6 zx x1
  have pr := o6 zr r1
  have pb := o6 zb b1
  unfold plOk at px pr pb
  refine ⟨k.x, k.y, ⟨zx.2, at_ zx x1 _ ?_ ?_⟩, ⟨zr.2, at_ zr r1 _ ?_ ?_⟩, ⟨_, f⟩, ⟨zb.1.1.toNat, ?_⟩⟩
  · show zx.1.1 ≤ ((b.x.toNat : Nat) : Int); omega
  · show ((b.x.toNat : Nat) : Int) < zx.1.2; omega
  · show zr.1.1 ≤ ((b.x.toNat + (b.r - b.x).toNat - 1 : Nat) : Int); omega
  · show ((b.x.toNat + (b.r - b.x).toNat - 1 : Nat) : Int) < zr.1.2; omega
  · have := at_ zb b1 zb.1.1.toNat (by omega) (by omega)
    rw [show b.pc.y.toNat + b.pc.h - 1 = zb.2 by simp only [BoxP.pc, Int.toNat_natCast]; omega]
    exact this
end Go.Ab
