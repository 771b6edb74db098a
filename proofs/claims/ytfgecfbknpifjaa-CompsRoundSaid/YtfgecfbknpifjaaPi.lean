/- A bitmap all of whose black pixels are connected, up to its four edges, is one piece. Conditions: none. -/
import Derived.Test.YtfgecfbknpifjaaPh
set_option linter.all false
namespace Go.Ab
variable {q : Nat → Nat → Bool} {W Ht : Nat}
theorem one_box (hcon : ∀ i j i' j', blk_ q W Ht i j → blk_ q W Ht i' j' → ConX q W Ht i j i' j') (hl : ∃ j, blk_ q W Ht 0 j) (hr : ∃ j, blk_ q W Ht (W - 1) j) (ht : ∃ i, blk_ q W Ht i 0) (hb : ∃ i, blk_ q W Ht i (Ht - 1)) :
    (pcsOf q W Ht).map PcP.key = [((0 : Int), (0 : Int), ((W : Nat) : Int), ((Ht : Nat) : Int), Wds W Ht q)] := by
  obtain ⟨F, hF, hFl⟩ := fst_rho (rowsOf q W Ht) Ht
  have hro := boxes_roots (PL := allPl (rowsOf q W Ht) Ht) hF _ (Nat.le_refl _)
  have hat := boxes_at hF (pl_mono (rows := rowsOf q W Ht) Ht) (allPl (rowsOf q W Ht) Ht).length (Nat.le_refl _)
  have hok := boxes_ok (ρ := rhoF (rowsOf q W Ht) Ht) (pl_ok (p := q) (w := W) (h := Ht)) (pl_mono Ht) (allPl (rowsOf q W Ht) Ht).length
  have px : ∀ k, k < (allPl (rowsOf q W Ht) Ht).length → ∃ x y, inRun (allPl (rowsOf q W Ht) Ht) k x y := fun k hk => by
    have e := List.getElem?_eq_getElem hk
    obtain ⟨p1, p2, _, _⟩ := pl_ok (p := q) _ (List.getElem_mem hk)
    exact ⟨_, _, (allPl (rowsOf q W Ht) Ht)[k].1, e, by rw [Int.toNat_of_nonneg p1]; exact Int.le_refl _, by rw [Int.toNat_of_nonneg p1]; exact p2⟩
  have same : ∀ k k', k < (allPl (rowsOf q W Ht) Ht).length → k' < (allPl (rowsOf q W Ht) Ht).length → rhoF (rowsOf q W Ht) Ht k = rhoF (rowsOf q W Ht) Ht k' := fun k k' h1 h2 => by
    obtain ⟨x, y, e1⟩ := px k h1
    obtain ⟨x', y', e2⟩ := px k' h2
    exact (rho_px e1 e2).2 (hcon _ _ _ _ (run_blk e1) (run_blk e2))
  obtain ⟨jl, hjl⟩ := hl
  obtain ⟨kl, hkl⟩ := run_of hjl
  have hkll : kl < (allPl (rowsOf q W Ht) Ht).length := by obtain ⟨u, e, _⟩ := hkl; exact (List.getElem?_eq_some_iff.1 e).1
  have hmem := hro.2.2 kl hkll
  obtain ⟨b, hbe⟩ : ∃ b, boxes (rhoF (rowsOf q W Ht) Ht) (allPl (rowsOf q W Ht) Ht) (allPl (rowsOf q W Ht) Ht).length = [b] := by
    have hroot : ∀ c ∈ boxes (rhoF (rowsOf q W Ht) Ht) (allPl (rowsOf q W Ht) Ht) (allPl (rowsOf q W Ht) Ht).length, c.root = rhoF (rowsOf q W Ht) Ht kl := fun c hc => by
      obtain ⟨r1, r2, _⟩ := (hat c hc).root
      rw [← r2]; exact same _ _ r1 hkll
    have hp := hro.1
    generalize boxes (rhoF (rowsOf q W Ht) Ht) (allPl (rowsOf q W Ht) Ht) (allPl (rowsOf q W Ht) Ht).length = bs at hroot hp hmem
    match bs, hroot, hp, hmem with
    | [], _, _, hm => simp at hm
    | [b], _, _, _ => exact ⟨b, rfl⟩
    | b :: c :: bs, hr2, hp2, _ =>
      have h1 := hr2 b (by simp)
      have h2 := hr2 c (by simp)
      rw [List.map_cons, List.map_cons, List.pairwise_cons] at hp2
      have := hp2.1 c.root (by simp)
      omega
  have hbm : b ∈ boxes (rhoF (rowsOf q W Ht) Ht) (allPl (rowsOf q W Ht) Ht) (allPl (rowsOf q W Ht) Ht).length := by rw [hbe]; simp
  have rootb : ∀ {k x y}, inRun (allPl (rowsOf q W Ht) Ht) k x y → rhoF (rowsOf q W Ht) Ht k = b.root := fun {k x y} hk => by
    obtain ⟨r1, r2, _⟩ := (hat b hbm).root
    rw [← r2]
    have : k < (allPl (rowsOf q W Ht) Ht).length := by obtain ⟨u, e, _⟩ := hk; exact (List.getElem?_eq_some_iff.1 e).1
    exact same _ _ this r1
  have ib : ∀ {x y}, blk_ q W Ht x y → 0 ≤ b.x ∧ b.x ≤ x ∧ (x : Int) < b.r ∧ b.y ≤ y ∧ y < b.b := fun {x y} h => by
    obtain ⟨k, hk⟩ := run_of h
    exact in_box hF hbm hk (rootb hk)
  obtain ⟨o1, o2, o3, o4, o5, o6⟩ := (hok b hbm).1
  obtain ⟨jr, hjr⟩ := hr
  obtain ⟨it, hit⟩ := ht
  obtain ⟨ib', hib⟩ := hb
  have g1 := ib hjl
  have g2 := ib hjr
  have g3 := ib hit
  have g4 := ib hib
  have w1 := hjl.1
  have w2 := hjl.2.1
  have ex : b.x = 0 := by omega
  have ey : b.y = 0 := by omega
  have er : b.r = W := by omega
  have eb : b.b = Ht := by omega
  have epx : ∀ i j, i < W → j < Ht → boxPx b i j = q i j := fun i j h1 h2 => by
    have h := boxPx_iff hF hbm o1 i j
    rw [ex, ey] at h
    simp only [Int.toNat_zero, Nat.zero_add] at h
    have : boxPx b i j = true ↔ q i j = true := by
      rw [h]
      constructor
      · rintro ⟨k, hk, _⟩; exact (run_blk hk).2.2
      · intro hq
        obtain ⟨k, hk⟩ := run_of (p := q) (w := W) (h := Ht) ⟨h1, h2, hq⟩
        exact ⟨k, hk, rootb hk⟩
    cases e1 : boxPx b i j <;> cases e2 : q i j <;> simp_all
  unfold pcsOf
  rw [hbe]
  simp only [List.map_cons, List.map_nil, PcP.key, BoxP.pc, ex, ey, er, eb, Nat.sub_zero, Int.sub_zero, Int.toNat_natCast]
  rw [Wds_congr epx]
  rfl
end Go.Ab
