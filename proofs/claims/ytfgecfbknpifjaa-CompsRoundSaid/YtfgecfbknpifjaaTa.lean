/- The forest: runs with their parents; root and join. Conditions: none. -/
import Derived.Test.YtfgecfbknpifjaaPCo
import Derived.Test.YtfgecfbknpifjaaRd
set_option linter.all false
namespace Go.Ab
/-- A label, jumped back to while something gets smaller. -/
theorem gs_dec {P : Prog} {l : Nat} {c : Cd} {live : List Nat} {Q : Post} {σ : Type} (m : σ → Nat) (F : σ → Fr) (S : σ → Heap → Prop)
    (round : ∀ x H (K : Post), S x H → (∀ y H', m y < m x → S y H' → K (.goto l) (F y) H') → (∀ fr H, K .normal fr H = Q .normal fr H) → (∀ fr H, K .ret fr H = Q .ret fr H) → wpC (Call P) c K ((F x).keep live) H)
    (x : σ) (H : Heap) (h : S x H) : wpC (Call P) (.gscope .skip l live c) Q (F x) H :=
  iterG_inv (fun k fr H => ∃ y, k = m y ∧ fr = F y ∧ S y H) (fun k fr H ⟨y, hk, hf, hs⟩ => by
    subst hf hk
    exact round y H _ hs (fun z H' hz h' => ⟨rfl, m z, hz, z, rfl, rfl, h'⟩) (fun _ _ => rfl) (fun _ _ => rfl)) (m x) (F x) H ⟨x, rfl, rfl, h⟩

/-- Parents, and what stands for each. -/
structure Fst (F : List Nat) (ρ : Nat → Nat) : Prop where
  le : ∀ i v : Nat, F[i]? = some v → v ≤ i
  eq : ∀ i v : Nat, F[i]? = some v → ρ v = ρ i
  fix : ∀ i : Nat, F[i]? = some i → ρ i = i
  out : ∀ i : Nat, F.length ≤ i → ρ i = i
variable {F : List Nat} {ρ : Nat → Nat}
theorem Fst.nil : Fst [] fun i => i := ⟨by simp, by simp, by simp, fun _ _ => rfl⟩
theorem Fst.lo (h : Fst F ρ) : ∀ i, ρ i ≤ i := fun i => by
  induction i using Nat.strongRecOn with
  | _ i ih =>
    rcases Nat.lt_or_ge i F.length with hi | hi
    · have e := List.getElem?_eq_getElem hi
      have h1 := h.le i _ e
      have h2 := h.eq i _ e
      by_cases hf : F[i] = i
      · rw [hf] at e; rw [h.fix i e]; exact Nat.le_refl _
      · have := ih F[i] (by omega); omega
    · rw [h.out i hi]; exact Nat.le_refl _
theorem Fst.idem (h : Fst F ρ) : ∀ i, ρ (ρ i) = ρ i := fun i => by
  induction i using Nat.strongRecOn with
  | _ i ih =>
    rcases Nat.lt_or_ge i F.length with hi | hi
    · have e := List.getElem?_eq_getElem hi
      have h1 := h.le i _ e
      have h2 := h.eq i _ e
      by_cases hf : F[i] = i
      · rw [hf] at e; rw [h.fix i e, h.fix i e]
      · have := ih F[i] (by omega); rw [h2] at this; exact this
    · rw [h.out i hi, h.out i hi]
theorem Fst.app (h : Fst F ρ) : Fst (F ++ [F.length]) ρ := by
  have key : ∀ i v : Nat, (F ++ [F.length])[i]? = some v → F[i]? = some v ∨ (i = F.length ∧ v = F.length) := fun i v e => by
    rcases Nat.lt_or_ge i F.length with hi | hi
    · rw [List.getElem?_append_left hi] at e; exact .inl e
    · rw [List.getElem?_append_right hi] at e
      cases hk : i - F.length with
      | zero => rw [hk] at e; cases e; exact .inr ⟨by omega, rfl⟩
      | succ n => rw [hk] at e; cases e
  refine ⟨fun i v e => ?_, fun i v e => ?_, fun i e => ?_, fun i hi => h.out i (by simp at hi; omega)⟩
  · rcases key i v e with e | ⟨rfl, rfl⟩
    · exact h.le i v e
    · exact Nat.le_refl _
  · rcases key i v e with e | ⟨rfl, rfl⟩
    · exact h.eq i v e
    · rfl
  · rcases key i i e with e | ⟨h1, _⟩
    · exact h.fix i e
    · exact h.out i (by omega)
theorem set_key {i v j x : Nat} (e : (F.set i v)[j]? = some x) : (j = i ∧ x = v) ∨ (j ≠ i ∧ F[j]? = some x) := by
  by_cases hj : i = j
  · subst hj
    rw [List.getElem?_set] at e
    rw [if_pos rfl] at e
    split at e
    · cases e; exact .inl ⟨rfl, rfl⟩
    · cases e
  · rw [List.getElem?_set_ne hj] at e; exact .inr ⟨fun h => hj h.symm, e⟩
/-- A run's parent becomes its parent's. -/
theorem Fst.half (h : Fst F ρ) {i p g : Nat} (hi : F[i]? = some p) (hp : F[p]? = some g) (hne : p ≠ i) : Fst (F.set i g) ρ := by
  have l1 := h.le i p hi
  have l2 := h.le p g hp
  refine ⟨fun j v e => ?_, fun j v e => ?_, fun j e => ?_, fun j hj => h.out j (by simpa using hj)⟩
  · rcases set_key e with ⟨rfl, rfl⟩ | ⟨_, e⟩
    · omega
    · exact h.le j v e
  · rcases set_key e with ⟨rfl, rfl⟩ | ⟨_, e⟩
    · rw [h.eq p v hp, h.eq j p hi]
    · exact h.eq j v e
  · rcases set_key e with ⟨rfl, e⟩ | ⟨_, e⟩
    · omega
    · exact h.fix j e
/-- Two roots are put together. -/
def jn (ρ : Nat → Nat) (i k : Nat) : Nat → Nat := fun j => if ρ j = max (ρ i) (ρ k) then min (ρ i) (ρ k) else ρ j
theorem Fst.join (h : Fst F ρ) {i k : Nat} (hi : i < F.length) (hk : k < F.length) : Fst (F.set (max (ρ i) (ρ k)) (min (ρ i) (ρ k))) (jn ρ i k) := by
  have a1 := h.lo i
  have a2 := h.lo k
  have b1 := h.idem i
  have b2 := h.idem k
  have hM : ρ (max (ρ i) (ρ k)) = max (ρ i) (ρ k) := by
    rcases Nat.le_total (ρ i) (ρ k) with q | q
    · rw [Nat.max_eq_right q]; exact b2
    · rw [Nat.max_eq_left q]; exact b1
  have hm : ρ (min (ρ i) (ρ k)) = min (ρ i) (ρ k) := by
    rcases Nat.le_total (ρ i) (ρ k) with q | q
    · rw [Nat.min_eq_left q]; exact b1
    · rw [Nat.min_eq_right q]; exact b2
  have hlt : max (ρ i) (ρ k) < F.length := by omega
  have hmM : min (ρ i) (ρ k) ≤ max (ρ i) (ρ k) := by omega
  refine ⟨fun j v e => ?_, fun j v e => ?_, fun j e => ?_, fun j hj => ?_⟩
  · rcases set_key e with ⟨rfl, rfl⟩ | ⟨_, e⟩
    · exact hmM
    · exact h.le j v e
  · rcases set_key e with ⟨rfl, rfl⟩ | ⟨_, e⟩
    · unfold jn; rw [hm, hM, if_pos rfl]; split <;> rfl
    · unfold jn; rw [h.eq j v e]
  · rcases set_key e with ⟨rfl, e⟩ | ⟨hne, e⟩
    · unfold jn; rw [hM, if_pos rfl]; exact e.symm
    · unfold jn; rw [h.fix j e, if_neg hne]
  · have hj : F.length ≤ j := by simpa using hj
    unfold jn; rw [h.out j hj, if_neg (by omega)]

def iV (l : List Nat) : List V := l.map fun (n : Nat) => .int .i64 n
theorem iV_len (l : List Nat) : (iV l).length = l.length := by simp [iV]
theorem iV_set (l : List Nat) (i v : Nat) : (iV l).set i (.int .i64 (v : Nat)) = iV (l.set i v) := by simp [iV, List.map_set]
theorem iV_get {l : List Nat} {i v : Nat} (e : l[i]? = some v) : (iV l)[i]? = some (.int .i64 (v : Nat)) := by simp [iV, e]
theorem iV_snoc (l : List Nat) (v : Nat) : iV (l ++ [v]) = iV l ++ [.int .i64 (v : Nat)] := by simp [iV]

section
variable {P : Prog} {H : Heap} {R : List As} {Q : Out → Heap → Prop}
/-- A list of ints of one's own: reading, writing. -/
theorem iv_rd {fv : V} {F : List Nat} (h : Hs H (Lst fv 1 F.length (iV F) :: R)) {i v : Nat} (e : F[i]? = some v) : ∃ b, fv = .sl (some (b, 0)) F.length F.length 1 ∧ rd H none b i = some (.int .i64 (v : Nat)) := by
  have hi : i < F.length := (List.getElem?_eq_some_iff.1 e).1
  rcases h.own with ⟨_, hn, _⟩ | ⟨b, hv, hg, _, _⟩
  · omega
  · exact ⟨b, hv, by rw [rd_s hg, iV_get e]⟩
theorem iv_wr {b : Nat} {F : List Nat} (h : Hs H (Lst (.sl (some (b, 0)) F.length F.length 1) 1 F.length (iV F) :: R)) {i : Nat} (v : Nat) (hi : i < F.length) :
    ∃ H', wr H b i [.int .i64 (v : Nat)] = some H' ∧ Hs H' (Lst (.sl (some (b, 0)) F.length F.length 1) 1 F.length (iV (F.set i v)) :: R) := by
  obtain ⟨b', hv, _, h1, h2, h3⟩ := wr_own h.own hi (k := 0) (vs := [.int .i64 (v : Nat)]) (by simp) rfl
  cases hv
  rw [Nat.mul_one, Nat.add_zero, over_one (by rw [iV_len]; exact hi), iV_set] at h1 h2 h3
  exact ⟨_, h1, h.lst' h3 h2 fun _ h => .inl h⟩
theorem root_ct (hp : HasCo P) {fv : V} {F : List Nat} {ρ : Nat → Nat} {i : Nat} (hs : Hs H (Lst fv 1 F.length (iV F) :: R)) (hF : Fst F ρ) (hi : i < F.length)
    (hQ : ∀ F' H', F'.length = F.length → Fst F' ρ → Hs H' (Lst fv 1 F'.length (iV F') :: R) → Q (.ret (.int .i64 (ρ i : Nat))) H') : Call P 186 [fv, .int .i64 (i : Nat)] H Q := by
  refine call_of hp.h_comps_forest_root rfl ?_
  obtain ⟨b, rfl, _⟩ := iv_rd hs (List.getElem?_eq_getElem hi)
  simp -implicitDefEqProofs -dsimp (disch := omega) only [go_sem, Nat.reduceEqDiff, ↓reduceIte, Nat.reduceAdd, Nat.reduceMul, Nat.reduceSub, Nat.reduceLT, Nat.reduceLeDiff, Int.reduceLT, Int.reduceLE, Int.reduceEq, Int.reduceNeg, Int.reduceAdd, Int.reduceMul, Int.reduceSub, Int.reduceToNat, reduceCtorEq, dec_t, dec_f, ]
  refine gs_dec (σ := Nat × List Nat) (fun x => x.1) (fun x => ⟨[(0, .sl (some (b, 0)) F.length F.length 1), (1, .int .i64 (x.1 : Nat))], []⟩)
    (fun x H => x.2.length = F.length ∧ x.1 < F.length ∧ ρ x.1 = ρ i ∧ Fst x.2 ρ ∧ Hs H (Lst (.sl (some (b, 0)) F.length F.length 1) 1 x.2.length (iV x.2) :: R)) (fun x H K ⟨hl, hx, hr, hf, h1⟩ hg hn hrr => ?_) (i, F) H ⟨rfl, hi, rfl, hF, hs⟩
  obtain ⟨x, G⟩ := x
  dsimp only at hl hx hr hf h1 hg
  rw [← hl] at h1 hx hg ⊢
  have e1 := List.getElem?_eq_getElem hx
  obtain ⟨b1, hb1, c1⟩ := iv_rd h1 e1
  cases hb1
  by_cases he : G[x] = x
  · rw [he] at e1 c1
    simp -implicitDefEqProofs -dsimp (disch := omega) only [go_sem, Nat.reduceEqDiff, ↓reduceIte, Nat.reduceAdd, Nat.reduceMul, Nat.reduceSub, Nat.reduceLT, Nat.reduceLeDiff, Int.reduceLT, Int.reduceLE, Int.reduceEq, Int.reduceNeg, Int.reduceAdd, Int.reduceMul, Int.reduceSub, Int.reduceToNat, reduceCtorEq, dec_t, dec_f, comps_forest_root_l0, Int.toNat_natCast, Nat.mul_one, c1]
    rw [hrr]
    simp -implicitDefEqProofs -dsimp (disch := omega) only [go_sem, Nat.reduceEqDiff, ↓reduceIte, Nat.reduceAdd, Nat.reduceMul, Nat.reduceSub, Nat.reduceLT, Nat.reduceLeDiff, Int.reduceLT, Int.reduceLE, Int.reduceEq, Int.reduceNeg, Int.reduceAdd, Int.reduceMul, Int.reduceSub, Int.reduceToNat, reduceCtorEq, dec_t, dec_f, ]
    have e : ρ i = x := by rw [← hr, hf.fix x e1]
    rw [← hl] at hQ
    have hQ := hQ G H rfl hf h1
    rw [e] at hQ; exact hQ
  · have hpx := hf.le x _ e1
    obtain ⟨p, hp0⟩ : ∃ p, G[x] = p := ⟨_, rfl⟩
    rw [hp0] at e1 c1 he hpx
    have hpl : p < G.length := by omega
    have e2 := List.getElem?_eq_getElem hpl
    obtain ⟨g, hg0⟩ : ∃ g, G[p] = g := ⟨_, rfl⟩
    rw [hg0] at e2
    have hgp := hf.le p g e2
    obtain ⟨b2, hb2, c2⟩ := iv_rd h1 e2
    cases hb2
    obtain ⟨H2, w1, h2⟩ := iv_wr h1 g hx
    have e3 : (G.set x g)[x]? = some g := by rw [List.getElem?_set, if_pos rfl, if_pos hx]
    have hll : (G.set x g).length = G.length := by simp
    rw [← hll] at h2
    have ih := hg (g, G.set x g) H2 (by dsimp only; omega) ⟨by rw [hll, hl], by dsimp only; omega, by dsimp only; rw [hf.eq p g e2, hf.eq x p e1, hr], hf.half e1 e2 he, by rw [hll] at h2 ⊢; exact h2⟩
    obtain ⟨b3, hb3, c3⟩ := iv_rd h2 e3
    cases hb3
    simp -implicitDefEqProofs -dsimp (disch := omega) only [go_sem, Nat.reduceEqDiff, ↓reduceIte, Nat.reduceAdd, Nat.reduceMul, Nat.reduceSub, Nat.reduceLT, Nat.reduceLeDiff, Int.reduceLT, Int.reduceLE, Int.reduceEq, Int.reduceNeg, Int.reduceAdd, Int.reduceMul, Int.reduceSub, Int.reduceToNat, reduceCtorEq, dec_t, dec_f, comps_forest_root_l0, Int.toNat_natCast, Nat.mul_one, c1, c2, w1, c3]
    exact ih
theorem join_ct (hp : HasCo P) {fv : V} {F : List Nat} {ρ : Nat → Nat} {i k : Nat} (hs : Hs H (Lst fv 1 F.length (iV F) :: R)) (hF : Fst F ρ) (hi : i < F.length) (hk : k < F.length)
    (hQ : ∀ F' H', F'.length = F.length → Fst F' (jn ρ i k) → Hs H' (Lst fv 1 F'.length (iV F') :: R) → Q (.ret (.tup [])) H') : Call P 188 [fv, .int .i64 (i : Nat), .int .i64 (k : Nat)] H Q := by
  refine call_of hp.h_comps_forest_join rfl ?_
  simp -implicitDefEqProofs -dsimp (disch := omega) only [go_sem, Nat.reduceEqDiff, ↓reduceIte, Nat.reduceAdd, Nat.reduceMul, Nat.reduceSub, Nat.reduceLT, Nat.reduceLeDiff, Int.reduceLT, Int.reduceLE, Int.reduceEq, Int.reduceNeg, Int.reduceAdd, Int.reduceMul, Int.reduceSub, Int.reduceToNat, reduceCtorEq, dec_t, dec_f, ]
  refine root_ct hp hs hF hi fun F1 H1 l1 f1 h1 => ?_
  simp -implicitDefEqProofs -dsimp (disch := omega) only [go_sem, Nat.reduceEqDiff, ↓reduceIte, Nat.reduceAdd, Nat.reduceMul, Nat.reduceSub, Nat.reduceLT, Nat.reduceLeDiff, Int.reduceLT, Int.reduceLE, Int.reduceEq, Int.reduceNeg, Int.reduceAdd, Int.reduceMul, Int.reduceSub, Int.reduceToNat, reduceCtorEq, dec_t, dec_f, ]
  refine root_ct hp h1 f1 (by omega) fun F2 H2 l2 f2 h2 => ?_
  have a1 := hF.lo i
  have a2 := hF.lo k
  have f3 := f2.join (i := i) (k := k) (by omega) (by omega)
  have hM : max (ρ i) (ρ k) < F2.length := by omega
  obtain ⟨b, rfl, _⟩ := iv_rd h2 (List.getElem?_eq_getElem hM)
  obtain ⟨H3, w1, h3⟩ := iv_wr h2 (min (ρ i) (ρ k)) hM
  have e1 : (if ((ρ k : Nat) : Int) > (ρ i : Nat) then ((ρ k : Nat) : Int) else (ρ i : Nat)) = ((max (ρ i) (ρ k) : Nat) : Int) := by split <;> omega
  have e2 : (if ((ρ k : Nat) : Int) < (ρ i : Nat) then ((ρ k : Nat) : Int) else (ρ i : Nat)) = ((min (ρ i) (ρ k) : Nat) : Int) := by split <;> omega
  simp -implicitDefEqProofs -dsimp (disch := omega) only [go_sem, Nat.reduceEqDiff, ↓reduceIte, Nat.reduceAdd, Nat.reduceMul, Nat.reduceSub, Nat.reduceLT, Nat.reduceLeDiff, Int.reduceLT, Int.reduceLE, Int.reduceEq, Int.reduceNeg, Int.reduceAdd, Int.reduceMul, Int.reduceSub, Int.reduceToNat, reduceCtorEq, dec_t, dec_f, e1, e2, w1, Int.toNat_natCast, Nat.mul_one]
  refine hQ (F2.set (max (ρ i) (ρ k)) (min (ρ i) (ρ k))) H3 (by simp; omega) f3 ?_
  rw [List.length_set]; exact h3
end
end Go.Ab
