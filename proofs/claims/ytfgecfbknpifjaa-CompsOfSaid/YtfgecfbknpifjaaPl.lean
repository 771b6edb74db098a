/- What pieces are: apart, all black pixels, connected, in the raster order of their first pixels. Conditions: none. -/
import Derived.Test.YtfgecfbknpifjaaP1
set_option linter.all false
namespace Go.Ab
variable {p : Nat → Nat → Bool} {w h : Nat}
/-- Is a pixel of the map one of a piece's? -/
def pin (P : PcP) (x y : Nat) : Bool := decide (P.x.toNat ≤ x ∧ x < P.x.toNat + P.w ∧ P.y.toNat ≤ y ∧ y < P.y.toNat + P.h) && P.p (x - P.x.toNat) (y - P.y.toNat)
abbrev bxs (p : Nat → Nat → Bool) (w h : Nat) : List BoxP := boxes (rhoF (rowsOf p w h) h) (allPl (rowsOf p w h) h) (allPl (rowsOf p w h) h).length
theorem pcs_at {i : Nat} {P : PcP} (e : (pcsOf p w h)[i]? = some P) : ∃ b, (bxs p w h)[i]? = some b ∧ P = b.pc := by
  unfold pcsOf at e
  rw [List.getElem?_map] at e
  cases k : (bxs p w h)[i]? with
  | none => rw [show boxes (rhoF (rowsOf p w h) h) (allPl (rowsOf p w h) h) (allPl (rowsOf p w h) h).length = bxs p w h from rfl, k] at e; cases e
  | some b => rw [show boxes (rhoF (rowsOf p w h) h) (allPl (rowsOf p w h) h) (allPl (rowsOf p w h) h).length = bxs p w h from rfl, k] at e; cases e; exact ⟨b, rfl, rfl⟩
theorem bxs_root {F : List Nat} (hF : Fst F (rhoF (rowsOf p w h) h)) {i j : Nat} {b c : BoxP} (e1 : (bxs p w h)[i]? = some b) (e2 : (bxs p w h)[j]? = some c) (hij : i < j) : b.root < c.root := by
  have h1 := (boxes_roots (PL := allPl (rowsOf p w h) h) hF _ (Nat.le_refl _)).1
  rw [List.pairwise_map] at h1
  obtain ⟨l1, e1⟩ := List.getElem?_eq_some_iff.1 e1
  obtain ⟨l2, e2⟩ := List.getElem?_eq_some_iff.1 e2
  have := List.pairwise_iff_getElem.1 h1 i j l1 l2 hij
  rwa [e1, e2] at this
theorem pcs_apart {i j : Nat} {P Q : PcP} {x y : Nat} (e1 : (pcsOf p w h)[i]? = some P) (e2 : (pcsOf p w h)[j]? = some Q) (h1 : pin P x y = true) (h2 : pin Q x y = true) : i = j := by
  obtain ⟨F, hF, _⟩ := fst_rho (rowsOf p w h) h
  obtain ⟨b, k1, rfl⟩ := pcs_at e1
  obtain ⟨c, k2, rfl⟩ := pcs_at e2
  have e := boxIn_one hF (List.mem_of_getElem? k1) (List.mem_of_getElem? k2) h1 h2
  rcases Nat.lt_trichotomy i j with k | k | k
  · have := bxs_root hF k1 k2 k; omega
  · exact k
  · have := bxs_root hF k2 k1 k; omega
theorem pcs_cover {x y : Nat} (hx : x < w) (hy : y < h) : p x y = true ↔ ∃ (i : Nat) (P : PcP), (pcsOf p w h)[i]? = some P ∧ pin P x y = true := by
  obtain ⟨F, hF, _⟩ := fst_rho (rowsOf p w h) h
  rw [boxIn_any hF hx hy]
  constructor
  · rintro ⟨b, hb, h1⟩
    obtain ⟨i, hi⟩ := List.mem_iff_getElem?.1 hb
    exact ⟨i, b.pc, by unfold pcsOf; rw [List.getElem?_map, hi]; rfl, h1⟩
  · rintro ⟨i, P, e, h1⟩
    obtain ⟨b, k1, rfl⟩ := pcs_at e
    exact ⟨b, List.mem_of_getElem? k1, h1⟩
theorem pin_lt {i : Nat} {P : PcP} {x y : Nat} (e : (pcsOf p w h)[i]? = some P) (h1 : pin P x y = true) : x < w ∧ y < h := by
  have k := pcs_in (List.mem_of_getElem? e)
  obtain ⟨k1, k2, k3, k4, _⟩ := k
  unfold pin at h1
  rw [Bool.and_eq_true, decide_eq_true_eq] at h1
  omega
/-- A piece's pixels are all that are connected with one of them. -/
theorem pcs_con {i : Nat} {P : PcP} {x y x' y' : Nat} (e : (pcsOf p w h)[i]? = some P) (h1 : pin P x y = true) : pin P x' y' = true ↔ ConX p w h x y x' y' := by
  obtain ⟨F, hF, _⟩ := fst_rho (rowsOf p w h) h
  obtain ⟨b, k1, rfl⟩ := pcs_at e
  have hb := List.mem_of_getElem? k1
  obtain ⟨k, hk, er⟩ := (boxIn_iff hF hb x y).1 h1
  rw [show pin b.pc x' y' = boxIn b x' y' from rfl, boxIn_iff hF hb]
  constructor
  · rintro ⟨k', hk', er'⟩
    exact (rho_px hk hk').1 (by rw [er, er'])
  · intro hc
    obtain ⟨k', hk'⟩ : ∃ k', inRun (allPl (rowsOf p w h) h) k' x' y' := by
      cases hc with
      | refl => exact ⟨k, hk⟩
      | step _ hb' _ => exact run_of hb'
    exact ⟨k', hk', by rw [← er]; exact ((rho_px hk hk').2 hc).symm⟩
theorem apart_pw {A : List (Int × Int)} (hA : apartR A) : A.Pairwise fun u v => u.2 < v.1 := by
  rw [List.pairwise_iff_getElem]
  intro i j hi hj hij
  exact hA i j _ _ hij (List.getElem?_eq_getElem hi) (List.getElem?_eq_getElem hj)
theorem pl_rast : ∀ n, (allPl (rowsOf p w h) n).Pairwise fun a b => a.2 < b.2 ∨ a.2 = b.2 ∧ a.1.2 < b.1.1
  | 0 => List.Pairwise.nil
  | n + 1 => by
    rw [allPl, List.pairwise_append]
    refine ⟨pl_rast n, ?_, fun a ha b hb => ?_⟩
    · unfold plRow
      rw [List.pairwise_map]
      exact (apart_pw (rows_apart n)).imp fun h => .inr ⟨rfl, h⟩
    · have h1 := (pl_row n a ha).1
      unfold plRow at hb
      obtain ⟨r, _, rfl⟩ := List.mem_map.1 hb
      exact .inl h1
/-- Where a piece's first pixel stands in its row. -/
def fpx (p : Nat → Nat → Bool) (w h i : Nat) : Nat := (((bxs p w h)[i]?.bind fun b => (allPl (rowsOf p w h) h)[b.root]?).map fun q => q.1.1.toNat).getD 0
theorem fpx_of {i : Nat} {P : PcP} (e : (pcsOf p w h)[i]? = some P) : ∃ (b : BoxP) (q : Plc), (bxs p w h)[i]? = some b ∧ P = b.pc ∧ (allPl (rowsOf p w h) h)[b.root]? = some q ∧ rhoF (rowsOf p w h) h b.root = b.root ∧ P.y.toNat = q.2 ∧ ((fpx p w h i : Nat) : Int) = q.1.1 ∧ q.1.1 < q.1.2 := by
  obtain ⟨F, hF, _⟩ := fst_rho (rowsOf p w h) h
  obtain ⟨b, k1, rfl⟩ := pcs_at e
  have hat := boxes_at hF (pl_mono (rows := rowsOf p w h) h) (allPl (rowsOf p w h) h).length (Nat.le_refl _) b (List.mem_of_getElem? k1)
  obtain ⟨t1, t2, q, t3, t4⟩ := hat.root
  have pq := pl_ok (p := p) (w := w) (h := h) q (List.mem_of_getElem? t3)
  unfold plOk at pq
  refine ⟨b, q, k1, rfl, t3, t2, t4, ?_, by omega⟩
  unfold fpx
  rw [k1, Option.bind_some, t3, Option.map_some, Option.getD_some]
  omega
theorem pcs_first {i : Nat} {P : PcP} (e : (pcsOf p w h)[i]? = some P) : pin P (fpx p w h i) P.y.toNat = true ∧ ∀ x y, pin P x y = true → P.y.toNat < y ∨ P.y.toNat = y ∧ fpx p w h i ≤ x := by
  obtain ⟨F, hF, _⟩ := fst_rho (rowsOf p w h) h
  obtain ⟨b, q, k1, rfl, k2, k3, k4, k5, k6⟩ := fpx_of e
  have hb := List.mem_of_getElem? k1
  refine ⟨(boxIn_iff hF hb _ _).2 ⟨b.root, ⟨q.1, ?_, by omega, by omega⟩, k3⟩, fun x y hp => ?_⟩
  · rw [k4]; exact k2
  · obtain ⟨k, ⟨u, e1, e2, e3⟩, er⟩ := (boxIn_iff hF hb x y).1 hp
    have lo := hF.lo k
    rw [er] at lo
    rcases Nat.lt_or_ge b.root k with c | c
    · obtain ⟨z1, z2⟩ := List.getElem?_eq_some_iff.1 k2
      obtain ⟨z3, z4⟩ := List.getElem?_eq_some_iff.1 e1
      have := List.pairwise_iff_getElem.1 (pl_rast (p := p) (w := w) (h := h) h) b.root k z1 z3 c
      rw [z2, z4] at this
      dsimp only at this
      omega
    · have : b.root = k := by omega
      subst this
      rw [e1] at k2
      cases k2
      dsimp only at k4 k5
      omega
theorem pcs_order {i j : Nat} {P Q : PcP} (e1 : (pcsOf p w h)[i]? = some P) (e2 : (pcsOf p w h)[j]? = some Q) (hij : i < j) : P.y.toNat < Q.y.toNat ∨ P.y.toNat = Q.y.toNat ∧ fpx p w h i < fpx p w h j := by
  obtain ⟨F, hF, _⟩ := fst_rho (rowsOf p w h) h
  obtain ⟨b, q, k1, rfl, k2, k3, k4, k5, k6⟩ := fpx_of e1
  obtain ⟨c, r, m1, rfl, m2, m3, m4, m5, m6⟩ := fpx_of e2
  have hr := bxs_root hF k1 m1 hij
  obtain ⟨z1, z2⟩ := List.getElem?_eq_some_iff.1 k2
  obtain ⟨z3, z4⟩ := List.getElem?_eq_some_iff.1 m2
  have := List.pairwise_iff_getElem.1 (pl_rast (p := p) (w := w) (h := h) h) b.root c.root z1 z3 hr
  rw [z2, z4] at this
  omega
end Go.Ab
