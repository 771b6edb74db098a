/- A mirrored bitmap's pieces. Conditions: none. -/
import Derived.Test.YtfgecfbknpifjaaPt
set_option linter.all false
namespace Go.Ab
theorem pig : ∀ (m n : Nat) (f : Nat → Nat), (∀ i, i < n → f i < m) → (∀ i j, i < n → j < n → f i = f j → i = j) → n ≤ m
  | 0, n, f, h1, _ => by
    rcases Nat.eq_zero_or_pos n with k | k
    · omega
    · have := h1 0 k; omega
  | m + 1, 0, _, _, _ => by omega
  | m + 1, n + 1, f, h1, h2 => by
    have := pig m n (fun i => if f i = m then f n else f i) (fun i hi => by
      have a1 := h1 i (by omega)
      have a2 := h1 n (by omega)
      split
      · rename_i e
        have : f n ≠ m := fun e' => by have := h2 i n (by omega) (by omega) (by omega); omega
        omega
      · omega) (fun i j hi hj e => by
      have b1 := h2 i j (by omega) (by omega)
      have b2 := h2 i n (by omega) (by omega)
      have b3 := h2 j n (by omega) (by omega)
      split at e <;> split at e
      · exact b1 (by omega)
      · have := b3 (by omega); omega
      · have := b2 (by omega); omega
      · exact b1 e)
    omega
def mir (w : Nat) (p : Nat → Nat → Bool) : Nat → Nat → Bool := fun x y => p (w - 1 - x) y
def PcP.mir (w : Nat) (P : PcP) : PcP := ⟨(w : Int) - P.x - (P.w : Nat), P.y, P.w, P.h, fun a b => P.p (P.w - 1 - a) b⟩
variable {p : Nat → Nat → Bool} {w h : Nat}
theorem mir_con {x y x' y' : Nat} (hx : x < w) (hc : ConX p w h x y x' y') : x' < w ∧ ConX (mir w p) w h (w - 1 - x) y (w - 1 - x') y' := by
  induction hc with
  | refl => exact ⟨hx, .refl⟩
  | @step x1 y1 x2 y2 hc' hb' hn ih =>
    obtain ⟨b1, b2, b3⟩ := hb'
    obtain ⟨n1, n2, n3, n4⟩ := hn
    refine ⟨b1, ih.2.step ⟨by omega, b2, ?_⟩ ⟨by omega, by omega, by omega, by omega⟩⟩
    unfold mir
    rw [show w - 1 - (w - 1 - x2) = x2 by omega]; exact b3
theorem mir_mir {x y : Nat} (hx : x < w) : mir w (mir w p) x y = p x y := by
  unfold mir; rw [show w - 1 - (w - 1 - x) = x by omega]
theorem con_congr {q : Nat → Nat → Bool} (e : ∀ x y, x < w → y < h → p x y = q x y) {x y x' y' : Nat} (hc : ConX p w h x y x' y') : ConX q w h x y x' y' := by
  induction hc with
  | refl => exact .refl
  | step _ hb hn ih => exact ih.step ⟨hb.1, hb.2.1, by rw [← e _ _ hb.1 hb.2.1]; exact hb.2.2⟩ hn
theorem mir_con' {x y x' y' : Nat} (hx : x < w) (hx' : x' < w) (hc : ConX (mir w p) w h (w - 1 - x) y (w - 1 - x') y') : ConX p w h x y x' y' := by
  have := con_congr (fun x y hx _ => mir_mir (p := p) hx) (mir_con (by omega) hc).2
  rwa [show w - 1 - (w - 1 - x) = x by omega, show w - 1 - (w - 1 - x') = x' by omega] at this
theorem pin_mir {P : PcP} (k : PcIn w h P) {a b : Nat} (ha : a < w) : pin (P.mir w) a b = pin P (w - 1 - a) b := by
  obtain ⟨k1, k2, k3, k4, k5, k6, k7⟩ := k
  unfold pin PcP.mir
  dsimp only
  by_cases c : P.x.toNat ≤ w - 1 - a ∧ w - 1 - a < P.x.toNat + P.w ∧ P.y.toNat ≤ b ∧ b < P.y.toNat + P.h
  · rw [decide_eq_true c, decide_eq_true (by omega), Bool.true_and, Bool.true_and, show P.w - 1 - (a - ((w : Int) - P.x - (P.w : Nat)).toNat) = w - 1 - a - P.x.toNat by omega]
  · rw [decide_eq_false c, decide_eq_false (by omega), Bool.false_and, Bool.false_and]
theorem pin_mir' {P : PcP} (k : PcIn w h P) {a b : Nat} (hp : pin P a b = true) : pin (P.mir w) (w - 1 - a) b = true ∧ a < w := by
  have b1 := pinb hp
  have k1 := k.x
  have k2 := k.xw
  have ha : a < w := by omega
  rw [pin_mir k (by omega), show w - 1 - (w - 1 - a) = a by omega]
  exact ⟨hp, ha⟩
theorem tight_mir {P : PcP} (k : PcIn w h P) (t : Tight P) : Tight (P.mir w) := by
  obtain ⟨t1, t2, ⟨a1, t3⟩, ⟨a2, t4⟩, ⟨a3, t5⟩, ⟨a4, t6⟩⟩ := t
  have k1 := k.x
  have k2 := k.xw
  have k5 := k.w1
  refine ⟨by show 0 ≤ (w : Int) - P.x - (P.w : Nat); omega, t2, ⟨a2, ?_⟩, ⟨a1, ?_⟩, ⟨_, (pin_mir' k t5).1⟩, ⟨_, (pin_mir' k t6).1⟩⟩
  · have := (pin_mir' k t4).1
    rwa [show w - 1 - (P.x.toNat + P.w - 1) = (P.mir w).x.toNat by show _ = ((w : Int) - P.x - (P.w : Nat)).toNat; omega] at this
  · have := (pin_mir' k t3).1
    rwa [show w - 1 - P.x.toNat = (P.mir w).x.toNat + (P.mir w).w - 1 by show _ = ((w : Int) - P.x - (P.w : Nat)).toNat + P.w - 1; omega] at this
/-- Each piece, mirrored, is a piece. -/
theorem mir_piece {i : Nat} {P : PcP} (e : (pcsOf p w h)[i]? = some P) : ∃ (k : Nat) (Q : PcP), (pcsOf (mir w p) w h)[k]? = some Q ∧ Q.key = (P.mir w).key := by
  have k := pcs_in (List.mem_of_getElem? e)
  have f := (pcs_first e).1
  obtain ⟨l1, l2⟩ := pin_lt e f
  have hb := (pcs_cover l1 l2).2 ⟨i, P, e, f⟩
  obtain ⟨j, Q, e', f'⟩ := (pcs_cover (p := mir w p) (w := w) (h := h) (x := w - 1 - fpx p w h i) (by omega) l2).1 (by unfold mir; rw [show w - 1 - (w - 1 - fpx p w h i) = fpx p w h i by omega]; exact hb)
  refine ⟨j, Q, e', (tight_uniq (tight_mir k (pcs_tight e)) (pcs_tight e') fun a b => ?_).symm⟩
  constructor
  · intro h1
    have b1 := pinb h1
    have ha : a < w := by
      have : (P.mir w).x = (w : Int) - P.x - (P.w : Nat) := rfl
      have : (P.mir w).w = P.w := rfl
      have := k.x; have := k.xw
      omega
    rw [pin_mir k ha] at h1
    have := (mir_con l1 ((pcs_con e f).1 h1)).2
    rw [show w - 1 - (w - 1 - a) = a by omega] at this
    exact (pcs_con e' f').2 this
  · intro h1
    have ha := (pin_lt e' h1).1
    have c := (pcs_con e' f').1 h1
    rw [show a = w - 1 - (w - 1 - a) by omega] at c
    rw [pin_mir k ha]
    exact (pcs_con e f).2 (mir_con' l1 (by omega) c)
theorem key_pin {P Q : PcP} (e : P.key = Q.key) {a b : Nat} (h1 : pin P a b = true) : pin Q a b = true := by
  obtain ⟨px, py, pw, ph, pp⟩ := P
  obtain ⟨qx, qy, qw, qh, qp⟩ := Q
  simp only [PcP.key, Prod.mk.injEq] at e
  obtain ⟨rfl, rfl, e3, e4, e5⟩ := e
  obtain rfl : pw = qw := by omega
  obtain rfl : ph = qh := by omega
  have b1 := pinb h1
  dsimp only at b1
  have := Wds_eq.1 e5 (a - px.toNat) (b - py.toNat) (by omega) (by omega)
  unfold pin at h1 ⊢
  dsimp only at h1 ⊢
  rw [← this]; exact h1
theorem mir_inj {i j : Nat} {P Q : PcP} (e1 : (pcsOf p w h)[i]? = some P) (e2 : (pcsOf p w h)[j]? = some Q) (e : (P.mir w).key = (Q.mir w).key) : i = j := by
  have f := (pcs_first e1).1
  have k1 := pcs_in (List.mem_of_getElem? e1)
  have k2 := pcs_in (List.mem_of_getElem? e2)
  obtain ⟨h1, h2⟩ := pin_mir' k1 f
  have h3 := key_pin e h1
  rw [pin_mir k2 (by omega), show w - 1 - (w - 1 - fpx p w h i) = fpx p w h i by omega] at h3
  exact pcs_apart e1 e2 f h3
theorem mir_le (p : Nat → Nat → Bool) (w h : Nat) : (pcsOf p w h).length ≤ (pcsOf (mir w p) w h).length := by
  obtain ⟨f, hf⟩ : ∃ f : Nat → Nat, ∀ i P, (pcsOf p w h)[i]? = some P → ∃ Q, (pcsOf (mir w p) w h)[f i]? = some Q ∧ Q.key = (P.mir w).key := by
    have : ∀ i : Nat, ∃ k : Nat, ∀ P : PcP, (pcsOf p w h)[i]? = some P → ∃ Q : PcP, (pcsOf (mir w p) w h)[k]? = some Q ∧ Q.key = (P.mir w).key := fun i => by
      cases e : (pcsOf p w h)[i]? with
      | none => exact ⟨0, fun _ h => (Option.some_ne_none _ h.symm).elim⟩
      | some P =>
        obtain ⟨k, Q, h1, h2⟩ := mir_piece e
        exact ⟨k, fun P' h => by cases h; exact ⟨Q, h1, h2⟩⟩
    exact Classical.axiomOfChoice this
  refine pig _ _ f (fun i hi => ?_) fun i j hi hj e => ?_
  · obtain ⟨Q, h1, _⟩ := hf i _ (List.getElem?_eq_getElem hi)
    exact (List.getElem?_eq_some_iff.1 h1).1
  · obtain ⟨Q, h1, h2⟩ := hf i _ (List.getElem?_eq_getElem hi)
    obtain ⟨Q', h3, h4⟩ := hf j _ (List.getElem?_eq_getElem hj)
    rw [e, h3] at h1
    cases h1
    exact mir_inj (List.getElem?_eq_getElem hi) (List.getElem?_eq_getElem hj) (h2.symm.trans h4)
theorem mir_len (p : Nat → Nat → Bool) (w h : Nat) : (pcsOf (mir w p) w h).length = (pcsOf p w h).length := by
  have h1 := mir_le p w h
  have h2 := mir_le (mir w p) w h
  rw [pcs_congr (p := mir w (mir w p)) (q := p) fun x y hx _ => mir_mir hx] at h2
  omega
end Go.Ab
