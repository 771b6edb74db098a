/- Together the pieces have as many black pixels as the bitmap. Conditions: none. -/
import Derived.Test.YtfgecfbknpifjaaPj
set_option linter.all false
namespace Go.Ab
theorem cntF_sum9 (f : Nat → Bool) : ∀ n, cntF f n = sumN (fun i => (f i).toNat) n
  | 0 => rfl
  | n + 1 => by rw [cntF, sumN, cntF_sum9 f n]
theorem sumN_none {f : Nat → Nat} : ∀ {n : Nat}, (∀ i, i < n → f i = 0) → sumN f n = 0
  | 0, _ => rfl
  | n + 1, h => by rw [sumN, sumN_none fun i hi => h i (by omega), h n (by omega)]
theorem sumN_plus9 (f g : Nat → Nat) : ∀ n, sumN (fun i => f i + g i) n = sumN f n + sumN g n
  | 0 => rfl
  | n + 1 => by rw [sumN, sumN, sumN, sumN_plus9 f g n]; omega
theorem sumN_emb {f : Nat → Nat} {x0 W w : Nat} (hW : x0 + W ≤ w) (supp : ∀ x, x < w → ¬ (x0 ≤ x ∧ x < x0 + W) → f x = 0) : sumN f w = sumN (fun i => f (x0 + i)) W := by
  obtain ⟨r, rfl⟩ := Nat.exists_eq_add_of_le hW
  rw [Nat.add_assoc, sumN_add, sumN_add, sumN_none (n := x0) fun i hi => supp i (by omega) (by omega), sumN_none (n := r) fun i hi => supp _ (by omega) (by omega)]
  omega
theorem cnt2_sum9 (w : Nat) (p : Nat → Nat → Bool) (h : Nat) : cnt2 w p h = sumN (fun j => sumN (fun i => (p i j).toNat) w) h := sumN_congr fun j _ => cntF_sum9 _ _
theorem cnt_emb {g : Nat → Nat → Bool} {x0 y0 W Ht w h : Nat} (hW : x0 + W ≤ w) (hH : y0 + Ht ≤ h) (supp : ∀ x y, x < w → y < h → g x y = true → x0 ≤ x ∧ x < x0 + W ∧ y0 ≤ y ∧ y < y0 + Ht) :
    cnt2 w g h = cnt2 W (fun i j => g (x0 + i) (y0 + j)) Ht := by
  rw [cnt2_sum9, cnt2_sum9]
  have z : ∀ x y, x < w → y < h → ¬ (x0 ≤ x ∧ x < x0 + W ∧ y0 ≤ y ∧ y < y0 + Ht) → (g x y).toNat = 0 := fun x y hx hy hn => by
    cases e : g x y
    · rfl
    · exact absurd (supp x y hx hy e) hn
  rw [sumN_emb (x0 := y0) (W := Ht) hH fun y hy hn => sumN_none fun x hx => z x y hx hy (by omega)]
  exact sumN_congr fun j hj => sumN_emb hW fun x hx hn => z x _ hx (by omega) (by omega)
theorem cnt_or {f g : Nat → Nat → Bool} {w h : Nat} (d : ∀ x y, x < w → y < h → f x y = true → g x y = false) : cnt2 w (fun x y => f x y || g x y) h = cnt2 w f h + cnt2 w g h := by
  rw [cnt2_sum9, cnt2_sum9, cnt2_sum9, ← sumN_plus9]
  refine sumN_congr fun y hy => ?_
  rw [← sumN_plus9]
  refine sumN_congr fun x hx => ?_
  have := d x y hx hy
  cases e : f x y
  · simp
  · rw [this e]; rfl
theorem cnt_any {α : Type} {g : α → Nat → Nat → Bool} {w h : Nat} : ∀ {l : List α}, l.Pairwise (fun a b => ∀ x y, x < w → y < h → g a x y = true → g b x y = false) → (l.map fun a => cnt2 w (g a) h).sum = cnt2 w (fun x y => l.any fun a => g a x y) h
  | [], _ => by
    rw [cnt2_sum9]; exact (sumN_none fun y _ => sumN_none fun x _ => rfl).symm
  | a :: l, hp => by
    obtain ⟨h1, h2⟩ := List.pairwise_cons.1 hp
    rw [List.map_cons, List.sum_cons, cnt_any h2]
    simp only [List.any_cons]
    refine (cnt_or fun x y hx hy ha => ?_).symm
    refine Bool.eq_false_iff.2 fun hb => ?_
    obtain ⟨b, hb1, hb2⟩ := List.any_eq_true.1 hb
    rw [h1 b hb1 x y hx hy ha] at hb2
    cases hb2
/-- Where a box's pixels lie. -/
def boxIn (b : BoxP) (x y : Nat) : Bool := decide (b.x.toNat ≤ x ∧ x < b.x.toNat + (b.r - b.x).toNat ∧ b.y ≤ y ∧ y < b.y + (b.b - b.y)) && boxPx b (x - b.x.toNat) (y - b.y)
variable {p : Nat → Nat → Bool} {w h : Nat}
theorem boxIn_iff {F : List Nat} (hF : Fst F (rhoF (rowsOf p w h) h)) {b : BoxP} (hb : b ∈ boxes (rhoF (rowsOf p w h) h) (allPl (rowsOf p w h) h) (allPl (rowsOf p w h) h).length) (x y : Nat) :
    boxIn b x y = true ↔ ∃ k, inRun (allPl (rowsOf p w h) h) k x y ∧ rhoF (rowsOf p w h) h k = b.root := by
  have hok := (boxes_ok (ρ := rhoF (rowsOf p w h) h) (pl_ok (p := p) (w := w) (h := h)) (pl_mono h) (allPl (rowsOf p w h) h).length b hb).1
  unfold boxIn
  rw [Bool.and_eq_true, decide_eq_true_eq]
  constructor
  · rintro ⟨⟨a1, a2, a3, a4⟩, a5⟩
    rw [boxPx_iff hF hb hok.x0, show b.x.toNat + (x - b.x.toNat) = x by omega, show b.y + (y - b.y) = y by omega] at a5
    exact a5
  · rintro ⟨k, hk, hr⟩
    obtain ⟨n1, n2, n3, n4, n5⟩ := in_box hF hb hk hr
    refine ⟨⟨by omega, by omega, by omega, by omega⟩, ?_⟩
    rw [boxPx_iff hF hb hok.x0, show b.x.toNat + (x - b.x.toNat) = x by omega, show b.y + (y - b.y) = y by omega]
    exact ⟨k, hk, hr⟩
/-- Boxes lie apart. -/
theorem boxIn_one {F : List Nat} (hF : Fst F (rhoF (rowsOf p w h) h)) {b b' : BoxP} (hb : b ∈ boxes (rhoF (rowsOf p w h) h) (allPl (rowsOf p w h) h) (allPl (rowsOf p w h) h).length) (hb' : b' ∈ boxes (rhoF (rowsOf p w h) h) (allPl (rowsOf p w h) h) (allPl (rowsOf p w h) h).length)
    {x y : Nat} (h1 : boxIn b x y = true) (h2 : boxIn b' x y = true) : b.root = b'.root := by
  obtain ⟨k, hk, e⟩ := (boxIn_iff hF hb x y).1 h1
  obtain ⟨k', hk', e'⟩ := (boxIn_iff hF hb' x y).1 h2
  rw [← e, ← e']
  exact (rho_px hk hk').2 .refl
theorem boxIn_any {F : List Nat} (hF : Fst F (rhoF (rowsOf p w h) h)) {x y : Nat} (hx : x < w) (hy : y < h) :
    p x y = true ↔ ∃ b ∈ boxes (rhoF (rowsOf p w h) h) (allPl (rowsOf p w h) h) (allPl (rowsOf p w h) h).length, boxIn b x y = true := by
  constructor
  · intro hp
    obtain ⟨k, hk⟩ := run_of (p := p) (w := w) (h := h) ⟨hx, hy, hp⟩
    have hkl : k < (allPl (rowsOf p w h) h).length := by obtain ⟨u, e, _⟩ := hk; exact (List.getElem?_eq_some_iff.1 e).1
    obtain ⟨b, hb, hbr⟩ := List.mem_map.1 ((boxes_roots (PL := allPl (rowsOf p w h) h) hF _ (Nat.le_refl _)).2.2 k hkl)
    exact ⟨b, hb, (boxIn_iff hF hb x y).2 ⟨k, hk, hbr.symm⟩⟩
  · rintro ⟨b, hb, h1⟩
    obtain ⟨k, hk, _⟩ := (boxIn_iff hF hb x y).1 h1
    exact (run_blk hk).2.2
theorem boxes_pw {F : List Nat} (hF : Fst F (rhoF (rowsOf p w h) h)) :
    (boxes (rhoF (rowsOf p w h) h) (allPl (rowsOf p w h) h) (allPl (rowsOf p w h) h).length).Pairwise (fun a b => ∀ x y, x < w → y < h → boxIn a x y = true → boxIn b x y = false) := by
  have h1 := (boxes_roots (PL := allPl (rowsOf p w h) h) hF _ (Nat.le_refl _)).1
  rw [List.pairwise_map] at h1
  refine List.Pairwise.imp_of_mem ?_ h1
  intro a b ha hb hab x y _ _ h2
  refine Bool.eq_false_iff.2 fun h3 => ?_
  have := boxIn_one hF ha hb h2 h3
  omega
/-- **Together they have as many black pixels.** -/
theorem pcs_count (p : Nat → Nat → Bool) (w h : Nat) : ((pcsOf p w h).map fun P => cnt2 P.w P.p P.h).sum = cnt2 w p h := by
  obtain ⟨F, hF, hFl⟩ := fst_rho (rowsOf p w h) h
  have hok := boxes_ok (ρ := rhoF (rowsOf p w h) h) (pl_ok (p := p) (w := w) (h := h)) (pl_mono h) (allPl (rowsOf p w h) h).length
  unfold pcsOf
  rw [List.map_map]
  have e : ∀ b ∈ boxes (rhoF (rowsOf p w h) h) (allPl (rowsOf p w h) h) (allPl (rowsOf p w h) h).length, cnt2 w (boxIn b) h = ((fun P : PcP => cnt2 P.w P.p P.h) ∘ BoxP.pc) b := fun b hb => by
    obtain ⟨o1, o2, o3, o4, o5, o6⟩ := (hok b hb).1
    rw [cnt_emb (x0 := b.x.toNat) (y0 := b.y) (W := (b.r - b.x).toNat) (Ht := b.b - b.y) (by omega) (by omega) fun x y hx hy hb => by
      unfold boxIn at hb
      rw [Bool.and_eq_true, decide_eq_true_eq] at hb
      exact hb.1]
    refine cnt2_congr fun i j hi hj => ?_
    have hi : i < (b.r - b.x).toNat := hi
    have hj : j < b.b - b.y := hj
    unfold boxIn
    rw [decide_eq_true (by omega), show b.x.toNat + i - b.x.toNat = i by omega, show b.y + j - b.y = j by omega, Bool.true_and]
    rfl
  rw [← List.map_congr_left e, cnt_any (boxes_pw hF)]
  refine cnt2_congr fun x y hx hy => ?_
  have := boxIn_any (p := p) (w := w) (h := h) hF hx hy
  rw [← List.any_eq_true] at this
  cases h1 : p x y
  · refine Bool.eq_false_iff.2 fun h2 => ?_
    rw [this.2 h2] at h1; cases h1
  · exact this.1 h1
end Go.Ab
