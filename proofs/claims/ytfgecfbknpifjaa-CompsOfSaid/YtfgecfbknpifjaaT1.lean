/- The forest: runs with their parents; root and join. Conditions: none. -/
import Derived.Test.YtfgecfbknpifjaaPCo
import Derived.Test.YtfgecfbknpifjaaRd
import Derived.Test.YtfgecfbknpifjaaPRfc
import Derived.Test.YtfgecfbknpifjaaPL10w
set_option linter.all false
namespace Go.Ab
/-- A label, jumped back to while something gets smaller. -/
theorem gs_dec {P : Prog} {l : Nat} {c : Cd} {live : List Nat} {Q : Post} {σ : Type} (m : σ → Nat) (F : σ → Fr) (S : σ → Heap → Prop)
    (round : ∀ x H (K : Post), S x H → (∀ y H', m y < m x → S y H' → K (.goto l) (F y) H') → (∀ fr H, K .normal fr H = Q .normal fr H) → (∀ fr H, K .ret fr H = Q .ret fr H) → wpC (Call P) c K ((F x).keep live) H)
    (x : σ) (H : Heap) (h : S x H) : wpC (Call P) (.gscope .skip l live c) Q (F x) H :=
  iterG_inv (fun k fr H => ∃ y, k = m y ∧ fr = F y ∧ S y H) (fun k fr H ⟨y, hk, hf, hs⟩ => by
    subst hf hk
    exact round y H _ hs (fun z H' hz h' => ⟨rfl, m z, hz, z, rfl, rfl, h'⟩) (fun _ _ => rfl) (fun _ _ => rfl)) (m x) (F x) H ⟨x, rfl, rfl, h⟩

/-- Parents, and what stands for each. -/
structure Fst (F : List Nat) (ρ : Nat → Nat) : Prop where
  le : ∀ i v : Nat, F[i]? = some v → v ≤ i
  eq : ∀ i v : Nat, F[i]? = some v → ρ v = ρ i
  fix : ∀ i : Nat, F[i]? = some i → ρ i = i
  out : ∀ i : Nat, F.length ≤ i → ρ i = i
variable {F : List Nat} {ρ : Nat → Nat}
theorem Fst.nil : Fst [] fun i => i := ⟨by simp, by simp, by simp, fun _ _ => rfl⟩
theorem Fst.lo (h : Fst F ρ) : ∀ i, ρ i ≤ i := fun i => by
  induction i using Nat.strongRecOn with
  | _ i ih =>
    rcases Nat.lt_or_ge i F.length with hi | hi
    · have e := List.getElem?_eq_getElem hi
      have h1 := h.le i _ e
      have h2 := h.eq i _ e
      by_cases hf : F[i] = i
      · rw [hf] at e; rw [h.fix i e]; exact Nat.le_refl _
      · have := ih F[i] (by omega); omega
    · rw [h.out i hi]; exact Nat.le_refl _
theorem Fst.idem (h : Fst F ρ) : ∀ i, ρ (ρ i) = ρ i := fun i => by
  induction i using Nat.strongRecOn with
  | _ i ih =>
    rcases Nat.lt_or_ge i F.length with hi | hi
    · have e := List.getElem?_eq_getElem hi
      have h1 := h.le i _ e
      have h2 := h.eq i _ e
      by_cases hf : F[i] = i
      · rw [hf] at e; rw [h.fix i e, h.fix i e]
      · have := ih F[i] (by omega); rw [h2] at this; exact this
    · rw [h.out i hi, h.out i hi]
theorem Fst.app (h : Fst F ρ) : Fst (F ++ [F.length]) ρ := by
  have key : ∀ i v : Nat, (F ++ [F.length])[i]? = some v → F[i]? = some v ∨ (i = F.length ∧ v = F.length) := fun i v e => by
    rcases Nat.lt_or_ge i F.length with hi | hi
    · rw [List.getElem?_append_left hi] at e; exact .inl e
    · rw [List.getElem?_append_right hi] at e
      cases hk : i - F.length with
      | zero => rw [hk] at e; cases e; exact .inr ⟨by omega, rfl⟩
      | succ n => rw [hk] at e; cases e
  refine ⟨fun i v e => ?_, fun i v e => ?_, fun i e => ?_, fun i hi => h.out i (by simp at hi; omega)⟩
  · rcases key i v e with e | ⟨rfl, rfl⟩
    · exact h.le i v e
    · exact Nat.le_refl _
  · rcases key i v e with e | ⟨rfl, rfl⟩
    · exact h.eq i v e
    · rfl
  · rcases key i i e with e | ⟨h1, _⟩
    · exact h.fix i e
    · exact h.out i (by omega)
theorem set_key {i v j x : Nat} (e : (F.set i v)[j]? = some x) : (j = i ∧ x = v) ∨ (j ≠ i ∧ F[j]? = some x) := by
  by_cases hj : i = j
  · subst hj
    rw [List.getElem?_set] at e
    rw [if_pos rfl] at e
    split at e
    · cases e; exact .inl ⟨rfl, rfl⟩
    · cases e
  · rw [List.getElem?_set_ne hj] at e; exact .inr ⟨fun h => hj h.symm, e⟩
/-- A run's parent becomes its parent's. -/
theorem Fst.half (h : Fst F ρ) {i p g : Nat} (hi : F[i]? = some p) (hp : F[p]? = some g) (hne : p ≠ i) : Fst (F.set i g) ρ := by
  have l1 := h.le i p hi
  have l2 := h.le p g hp
  refine ⟨fun j v e => ?_, fun j v e => ?_, fun j e => ?_, fun j hj => h.out j (by simpa using hj)⟩
  · rcases set_key e with ⟨rfl, rfl⟩ | ⟨_, e⟩
    · omega
    · exact h.le j v e
  · rcases set_key e with ⟨rfl, rfl⟩ | ⟨_, e⟩
    · rw [h.eq p v hp, h.eq j p hi]
    · exact h.eq j v e
  · rcases set_key e with ⟨rfl, e⟩ | ⟨_, e⟩
    · omega
    · exact h.fix j e
/-- Two roots are put together. -/
def jn (ρ : Nat → Nat) (i k : Nat) : Nat → Nat := fun j => if ρ j = max (ρ i) (ρ k) then min (ρ i) (ρ k) else ρ j
theorem Fst.join (h : Fst F ρ) {i k : Nat} (hi : i < F.length) (hk : k < F.length) : Fst (F.set (max (ρ i) (ρ k)) (min (ρ i) (ρ k))) (jn ρ i k) := by
  have a1 := h.lo i
  have a2 := h.lo k
  have b1 := h.idem i
  have b2 := h.idem k
  have hM : ρ (max (ρ i) (ρ k)) = max (ρ i) (ρ k) := by
    rcases Nat.le_total (ρ i) (ρ k) with q | q
    · rw [Nat.max_eq_right q]; exact b2
    · rw [Nat.max_eq_left q]; exact b1
  have hm : ρ (min (ρ i) (ρ k)) = min (ρ i) (ρ k) := by
    rcases Nat.le_total (ρ i) (ρ k) with q | q
    · rw [Nat.min_eq_left q]; exact b1
    · rw [Nat.min_eq_right q]; exact b2
  have hlt : max (ρ i) (ρ k) < F.length := by omega
  have hmM : min (ρ i) (ρ k) ≤ max (ρ i) (ρ k) := by omega
  refine ⟨fun j v e => ?_, fun j v e => ?_, fun j e => ?_, fun j hj => ?_⟩
  · rcases set_key e with ⟨rfl, rfl⟩ | ⟨_, e⟩
    · exact hmM
    · exact h.le j v e
  · rcases set_key e with ⟨rfl, rfl⟩ | ⟨_, e⟩
    · unfold jn; rw [hm, hM, if_pos rfl]; split <;> rfl
    · unfold jn; rw [h.eq j v e]
  · rcases set_key e with ⟨rfl, e⟩ | ⟨hne, e⟩
    · unfold jn; rw [hM, if_pos rfl]; exact e.symm
    · unfold jn; rw [h.fix j e, if_neg hne]
  · have hj : F.length ≤ j := by simpa using hj
    unfold jn; rw [h.out j hj, if_neg (by omega)]

def iV (l : List Nat) : List V := l.map fun (n : Nat) => .int .i64 n
theorem iV_len (l : List Nat) : (iV l).length = l.length := by simp [iV]
theorem iV_set (l : List Nat) (i v : Nat) : (iV l).set i (.int .i64 (v : Nat)) = iV (l.set i v) := by simp [iV, List.map_set]
theorem iV_get {l : List Nat} {i v : Nat} (e : l[i]? = some v) : (iV l)[i]? = some (.int .i64 (v : Nat)) := by simp [iV, e]
theorem iV_snoc (l : List Nat) (v : Nat) : iV (l ++ [v]) = iV l ++ [.int .i64 (v : Nat)] := by simp [iV]

section
variable {P : Prog} {H : Heap} {R : List As} {Q : Out → Heap → Prop}
/-- A list of ints of one's own: reading, writing. -/
theorem iv_rd {fv : V} {F : List Nat} (h : Hs H (Lst fv 1 F.length (iV F) :: R)) {i v : Nat} (e : F[i]? = some v) : ∃ b, fv = .sl (some (b, 0)) F.length F.length 1 ∧ rd H none b i = some (.int .i64 (v : Nat)) := by
  have hi : i < F.length := (List.getElem?_eq_some_iff.1 e).1
  rcases h.own with ⟨_, hn, _⟩ | ⟨b, hv, hg, _, _⟩
  · omega
  · exact ⟨b, hv, by rw [rd_s hg, iV_get e]⟩
theorem iv_wr {b : Nat} {F : List Nat} (h : Hs H (Lst (.sl (some (b, 0)) F.length F.length 1) 1 F.length (iV F) :: R)) {i : Nat} (v : Nat) (hi : i < F.length) :
    ∃ H', wr H b i [.int .i64 (v : Nat)] = some H' ∧ Hs H' (Lst (.sl (some (b, 0)) F.length F.length 1) 1 F.length (iV (F.set i v)) :: R) := by
  obtain ⟨b', hv, _, h1, h2, h3⟩ := wr_own h.own hi (k := 0) (vs := [.int .i64 (v : Nat)]) (by simp) rfl
  cases hv
  rw [Nat.mul_one, Nat.add_zero, over_one (by rw [iV_len]; exact hi), iV_set] at h1 h2 h3
  exact ⟨_, h1, h.lst' h3 h2 fun _ h => .inl h⟩
theorem root_ct (hp : HasCo P) {fv : V} {F : List Nat} {ρ : Nat → Nat} {i : Nat} (hs : Hs H (Lst fv 1 F.length (iV F) :: R)) (hF : Fst F ρ) (hi : i < F.length)
    (hQ : ∀ F' H', F'.length = F.length → Fst F' ρ → Hs H' (Lst fv 1 F'.length (iV F') :: R) → Q (.ret (.int .i64 (ρ i : Nat))) H') : Call P 186 [fv, .int .i64 (i : Nat)] H Q := by
  refine call_of hp.h_comps_forest_root rfl ?_
  obtain ⟨b, rfl, _⟩ := iv_rd hs (List.getElem?_eq_getElem hi)
  simp -implicitDefEqProofs -dsimp (disch := omega) only [go_sem, dec_t, dec_f, ]
  refine gs_dec (σ := Nat × List Nat) (fun x => x.1) (fun x => ⟨[(0, .sl (some (b, 0)) F.length F.length 1), (1, .int .i64 (x.1 : Nat))], []⟩)
    (fun x H => x.2.length = F.length ∧ x.1 < F.length ∧ ρ x.1 = ρ i ∧ Fst x.2 ρ ∧ Hs H (Lst (.sl (some (b, 0)) F.length F.length 1) 1 x.2.length (iV x.2) :: R)) (fun x H K ⟨hl, hx, hr, hf, h1⟩ hg hn hrr => ?_) (i, F) H ⟨rfl, hi, rfl, hF, hs⟩
  obtain ⟨x, G⟩ := x
  dsimp only at hl hx hr hf h1 hg
  rw [← hl] at h1 hx hg ⊢
  have e1 := List.getElem?_eq_getElem hx
  obtain ⟨b1, hb1, c1⟩ := iv_rd h1 e1
  cases hb1
  by_cases he : G[x] = x
  · rw [he] at e1 c1
    simp -implicitDefEqProofs -dsimp (disch := omega) only [go_sem, dec_t, dec_f, comps_forest_root_l0, Int.toNat_natCast, Nat.mul_one, c1]
    rw [hrr]
    simp -implicitDefEqProofs -dsimp (disch := omega) only [go_sem, dec_t, dec_f, ]
    have e : ρ i = x := by rw [← hr, hf.fix x e1]
    rw [← hl] at hQ
    have hQ := hQ G H rfl hf h1
    rw [e] at hQ; exact hQ
  · have hpx := hf.le x _ e1
    obtain ⟨p, hp0⟩ : ∃ p, G[x] = p := ⟨_, rfl⟩
    rw [hp0] at e1 c1 he hpx
    have hpl : p < G.length := by omega
    have e2 := List.getElem?_eq_getElem hpl
    obtain ⟨g, hg0⟩ : ∃ g, G[p] = g := ⟨_, rfl⟩
    rw [hg0] at e2
    have hgp := hf.le p g e2
    obtain ⟨b2, hb2, c2⟩ := iv_rd h1 e2
    cases hb2
    obtain ⟨H2, w1, h2⟩ := iv_wr h1 g hx
    have e3 : (G.set x g)[x]? = some g := by rw [List.getElem?_set, if_pos rfl, if_pos hx]
    have hll : (G.set x g).length = G.length := by simp
    rw [← hll] at h2
    have ih := hg (g, G.set x g) H2 (by dsimp only; omega) ⟨by rw [hll, hl], by dsimp only; omega, by dsimp only; rw [hf.eq p g e2, hf.eq x p e1, hr], hf.half e1 e2 he, by rw [hll] at h2 ⊢; exact h2⟩
    obtain ⟨b3, hb3, c3⟩ := iv_rd h2 e3
    cases hb3
    simp -implicitDefEqProofs -dsimp (disch := omega) only [go_sem, dec_t, dec_f, comps_forest_root_l0, Int.toNat_natCast, Nat.mul_one, c1, c2, w1, c3]
    exact ih
theorem join_ct (hp : HasCo P) {fv : V} {F : List Nat} {ρ : Nat → Nat} {i k : Nat} (hs : Hs H (Lst fv 1 F.length (iV F) :: R)) (hF : Fst F ρ) (hi : i < F.length) (hk : k < F.length)
    (hQ : ∀ F' H', F'.length = F.length → Fst F' (jn ρ i k) → Hs H' (Lst fv 1 F'.length (iV F') :: R) → Q (.ret (.tup [])) H') : Call P 188 [fv, .int .i64 (i : Nat), .int .i64 (k : Nat)] H Q := by
  refine call_of hp.h_comps_forest_join rfl ?_
  simp -implicitDefEqProofs -dsimp (disch := omega) only [go_sem, dec_t, dec_f, ]
  refine root_ct hp hs hF hi fun F1 H1 l1 f1 h1 => ?_
  simp -implicitDefEqProofs -dsimp (disch := omega) only [go_sem, dec_t, dec_f, ]
  refine root_ct hp h1 f1 (by omega) fun F2 H2 l2 f2 h2 => ?_
  have a1 := hF.lo i
  have a2 := hF.lo k
  have f3 := f2.join (i := i) (k := k) (by omega) (by omega)
  have hM : max (ρ i) (ρ k) < F2.length := by omega
  obtain ⟨b, rfl, _⟩ := iv_rd h2 (List.getElem?_eq_getElem hM)
  obtain ⟨H3, w1, h3⟩ := iv_wr h2 (min (ρ i) (ρ k)) hM
  have e1 : (if ((ρ k : Nat) : Int) > (ρ i : Nat) then ((ρ k : Nat) : Int) else (ρ i : Nat)) = ((max (ρ i) (ρ k) : Nat) : Int) := by split <;> omega
  have e2 : (if ((ρ k : Nat) : Int) < (ρ i : Nat) then ((ρ k : Nat) : Int) else (ρ i : Nat)) = ((min (ρ i) (ρ k) : Nat) : Int) := by split <;> omega
  simp -implicitDefEqProofs -dsimp (disch := omega) only [go_sem, dec_t, dec_f, e1, e2, w1, Int.toNat_natCast, Nat.mul_one]
  refine hQ (F2.set (max (ρ i) (ρ k)) (min (ρ i) (ρ k))) H3 (by simp; omega) f3 ?_
  rw [List.length_set]; exact h3
end
end Go.Ab
/- Two rows' runs that touch are put together. Conditions: none. -/
namespace Go.Ab
/-- What stands for each behind the two rows. -/
def tchF (A B : List (Int × Int)) (i k : Nat) : Nat → Nat → Nat → (Nat → Nat) → (Nat → Nat)
  | 0, _, _, ρ => ρ
  | n + 1, a, b, ρ => match A[a]?, B[b]? with
    | some u, some v => if u.2 ≤ v.2 then tchF A B i k n (a + 1) b (if touchP u v then jn ρ (i + a) (k + b) else ρ) else tchF A B i k n a (b + 1) (if touchP u v then jn ρ (i + a) (k + b) else ρ)
    | _, _ => ρ
def tch (A B : List (Int × Int)) (i k : Nat) (ρ : Nat → Nat) : Nat → Nat := tchF A B i k (A.length + B.length) 0 0 ρ
theorem tchF_end {A B : List (Int × Int)} {i k : Nat} {n a b : Nat} {ρ : Nat → Nat} (h : A.length ≤ a ∨ B.length ≤ b) : tchF A B i k n a b ρ = ρ := by
  cases n with
  | zero => rfl
  | succ n =>
    unfold tchF
    rcases h with h | h
    · rw [List.getElem?_eq_none h]
    · rw [List.getElem?_eq_none h]; cases A[a]? <;> rfl
theorem rc_rd {H : Heap} {v : V} {A : List (Int × Int)} (h : Arr H v 2 A.length (rcells A)) {a : Nat} (ha : a < A.length) :
    ∃ b o c, v = .sl (some (b, o)) A.length c 2 ∧ rd H (some 2) b (o + a * 2) = some (.agg [.int .i64 A[a].1, .int .i64 A[a].2]) ∧ rd H none b (o + a * 2 + 1) = some (.int .i64 A[a].2) := by
  obtain ⟨b, o, c, rfl, _, h1, h2⟩ := h.at ha
  refine ⟨b, o, c, rfl, ?_, ?_⟩
  · have := h2 0 2 (by omega)
    rw [Nat.add_zero, Nat.add_zero, rcells_at ha] at this; exact this
  · rw [h1 1 (by omega)]
    have := congrArg (fun l => l[1]?) (rcells_at ha)
    rw [List.getElem?_take, if_pos (by omega), List.getElem?_drop] at this
    exact this
section
variable {P : Prog} {H : Heap} {R : List As} {Q : Out → Heap → Prop}
structure ToS where
  a : Nat
  b : Nat
  ρ : Nat → Nat
  F : List Nat
set_option maxHeartbeats 1000000 in
theorem touching_ct (hu : HasRu P) (hp : HasCo P) {fv av rv : V} {F : List Nat} {ρ : Nat → Nat} {A B : List (Int × Int)} {i k : Nat} (hs : Hs H (Lst fv 1 F.length (iV F) :: R)) (hF : Fst F ρ)
    (hA : ∀ H', Hs H' R → Arr H' av 2 A.length (rcells A)) (hB : ∀ H', Hs H' R → Arr H' rv 2 B.length (rcells B)) (hi : i + A.length ≤ F.length) (hk : k + B.length ≤ F.length) (hl : F.length < 4611686018427387904)
    (hQ : ∀ F' H', F'.length = F.length → Fst F' (tch A B i k ρ) → Hs H' (Lst fv 1 F'.length (iV F') :: R) → Q (.ret (.tup [])) H') : Call P 187 [fv, av, rv, .int .i64 (i : Nat), .int .i64 (k : Nat)] H Q := by
  refine call_of hp.h_comps_touching rfl ?_
  obtain ⟨pa, ca, ea, rfl⟩ := (hA H hs.tail).shape
  obtain ⟨pb, cb, eb, rfl⟩ := (hB H hs.tail).shape
  simp -implicitDefEqProofs -dsimp (disch := omega) only [go_sem, dec_t, dec_f, ]
  refine loop_dec (σ := ToS) (fun x => A.length + B.length - x.a - x.b) (fun x => ⟨[(0, fv), (1, .sl pa A.length ca ea), (2, .sl pb B.length cb eb), (3, .int .i64 (i : Nat)), (4, .int .i64 (k : Nat)), (10, .int .i64 (x.a : Nat)), (11, .int .i64 (x.b : Nat))], []⟩)
    (fun x H => x.a ≤ A.length ∧ x.b ≤ B.length ∧ tchF A B i k (A.length + B.length - x.a - x.b) x.a x.b x.ρ = tch A B i k ρ ∧ x.F.length = F.length ∧ Fst x.F x.ρ ∧ Hs H (Lst fv 1 x.F.length (iV x.F) :: R))
    (fun x H1 K ⟨ha, hb, ht, hl1, hf, h1⟩ hn hx hrr => ?_) ⟨0, 0, ρ, F⟩ H ⟨Nat.zero_le _, Nat.zero_le _, rfl, rfl, hF, hs⟩
  obtain ⟨a, b, ρ1, G⟩ := x
  dsimp only at ha hb ht hl1 hf h1 hn
  by_cases ka : a < A.length
  · by_cases kb : b < B.length
    · obtain ⟨xa, oa, c1, ev, ra1, ra2⟩ := rc_rd (hA _ h1.tail) ka
      cases ev
      obtain ⟨xb, ob, c2, ev, rb1, rb2⟩ := rc_rd (hB _ h1.tail) kb
      cases ev
      have eA := List.getElem?_eq_getElem ka
      have eB := List.getElem?_eq_getElem kb
      obtain ⟨ρ2, hρ2⟩ : ∃ ρ2, (if touchP A[a] B[b] then jn ρ1 (i + a) (k + b) else ρ1) = ρ2 := ⟨_, rfl⟩
      have eF : tchF A B i k (A.length + B.length - a - b) a b ρ1 = if A[a].2 ≤ B[b].2 then tchF A B i k (A.length + B.length - (a + 1) - b) (a + 1) b ρ2
          else tchF A B i k (A.length + B.length - a - (b + 1)) a (b + 1) ρ2 := by
        rw [show A.length + B.length - a - b = (A.length + B.length - (a + 1) - b) + 1 by omega]
        conv => lhs; unfold tchF
        rw [eA, eB]
        dsimp only
        rw [hρ2]
        rw [show A.length + B.length - a - (b + 1) = A.length + B.length - (a + 1) - b by omega]
      have rest : ∀ (G2 : List Nat) (H2 : Heap), G2.length = F.length → Fst G2 ρ2 → Hs H2 (Lst fv 1 G2.length (iV G2) :: R) →
          wpC (Call P) (.seq (.reg true [0, 1, 2, 3, 4, 10, 11, 49] [⟨some 39, .mv (.t 1), none, 0, []⟩,
    ⟨some 40, .mv (.t 10), none, 1, []⟩,
    ⟨some 41, .iad none 2 (.t 39) (.t 40), none, 2, []⟩,
    ⟨some 42, .fad 1 (.t 41), none, 3, []⟩,
    ⟨some 43, .load none (.t 42), none, 4, []⟩,
    ⟨some 44, .mv (.t 2), none, 5, []⟩,
    ⟨some 45, .mv (.t 11), none, 6, []⟩,
    ⟨some 46, .iad none 2 (.t 44) (.t 45), none, 7, []⟩,
    ⟨some 47, .fad 1 (.t 46), none, 8, []⟩,
    ⟨some 48, .load none (.t 47), none, 9, []⟩,
    ⟨some 49, .bin .leq .num (.t 43) (.t 48), none, 10, []⟩])
  (.cond (.t 49) (.reg false [0, 1, 2, 3, 4, 10, 11] [⟨some 50, .mv (.t 10), none, 0, []⟩,
    ⟨some 51, .bin .add .num (.t 50) (.c (.int .i64 1)), none, 0, []⟩,
    ⟨some 10, .mv (.t 51), none, 0, []⟩])
  (.reg false [0, 1, 2, 3, 4, 10, 11] [⟨some 52, .mv (.t 11), none, 0, []⟩,
    ⟨some 53, .bin .add .num (.t 52) (.c (.int .i64 1)), none, 0, []⟩,
    ⟨some 11, .mv (.t 53), none, 0, []⟩]))) (blk 1 K)
          ⟨[(0, fv), (1, .sl (some (xa, oa)) A.length ca 2), (2, .sl (some (xb, ob)) B.length cb 2), (3, .int .i64 (i : Nat)), (4, .int .i64 (k : Nat)), (10, .int .i64 (a : Nat)), (11, .int .i64 (b : Nat))], []⟩ H2 := by
        intro G2 H2 q1 q2 q3
        obtain ⟨xa', oa', c1', ev, ra1, ra2⟩ := rc_rd (hA _ q3.tail) ka
        cases ev
        obtain ⟨xb', ob', c2', ev, rb1, rb2⟩ := rc_rd (hB _ q3.tail) kb
        cases ev
        by_cases le : A[a].2 ≤ B[b].2
        · rw [if_pos le] at eF
          simp -implicitDefEqProofs -dsimp (disch := omega) only [go_sem, dec_t, dec_f, ra2, rb2, Int.toNat_natCast, w64, cadd1]
          exact hn ⟨a + 1, b, _, G2⟩ H2 (by dsimp only; omega) ⟨by dsimp only; omega, hb, eF.symm.trans ht, q1, q2, q3⟩
        · rw [if_neg le] at eF
          simp -implicitDefEqProofs -dsimp (disch := omega) only [go_sem, dec_t, dec_f, ra2, rb2, Int.toNat_natCast, w64, cadd1]
          exact hn ⟨a, b + 1, _, G2⟩ H2 (by dsimp only; omega) ⟨ha, by dsimp only; omega, eF.symm.trans ht, q1, q2, q3⟩
      simp -implicitDefEqProofs -dsimp (disch := omega) only [go_sem, dec_t, dec_f, comps_touching_l0, ra1, rb1, Int.toNat_natCast]
      refine touch_ct hu h1 fun H2 h2 => ?_
      by_cases tp : touchP A[a] B[b]
      · rw [decide_eq_true tp]
        rw [if_pos tp] at hρ2
        subst hρ2
        have e1 : (i : Int) + (a : Int) = ((i + a : Nat) : Int) := (Int.natCast_add _ _).symm
        have e2 : (k : Int) + (b : Int) = ((k + b : Nat) : Int) := (Int.natCast_add _ _).symm
        simp -implicitDefEqProofs -dsimp (disch := omega) only [go_sem, dec_t, dec_f, e1, e2, w64]
        refine join_ct hp h2 hf (by omega) (by omega) fun G2 H3 q1 q2 q3 => ?_
        have := rest G2 H3 (by omega) q2 q3
        simp -implicitDefEqProofs -dsimp (disch := omega) only [go_sem, dec_t, dec_f, ]
        simp -implicitDefEqProofs -dsimp (disch := omega) only [go_sem, dec_t, dec_f, ] at this
        exact this
      · rw [decide_eq_false tp]
        rw [if_neg tp] at hρ2
        subst hρ2
        have := rest G H2 hl1 hf h2
        simp -implicitDefEqProofs -dsimp (disch := omega) only [go_sem, dec_t, dec_f, ]
        simp -implicitDefEqProofs -dsimp (disch := omega) only [go_sem, dec_t, dec_f, ] at this
        exact this
    · have : b = B.length := by omega
      subst this
      rw [tchF_end (.inr (Nat.le_refl _))] at ht
      simp -implicitDefEqProofs -dsimp (disch := omega) only [go_sem, dec_t, dec_f, comps_touching_l0]
      rw [hx]
      simp -implicitDefEqProofs -dsimp (disch := omega) only [go_sem, dec_t, dec_f, ]
      exact hQ G H1 hl1 (by rw [← ht]; exact hf) h1
  · have : a = A.length := by omega
    subst this
    rw [tchF_end (.inl (Nat.le_refl _))] at ht
    simp -implicitDefEqProofs -dsimp (disch := omega) only [go_sem, dec_t, dec_f, comps_touching_l0]
    rw [hx]
    simp -implicitDefEqProofs -dsimp (disch := omega) only [go_sem, dec_t, dec_f, ]
    exact hQ G H1 hl1 (by rw [← ht]; exact hf) h1
end
end Go.Ab
/- A row's runs are placed: the inner loop of comps.Of. Conditions: none. -/
namespace Go.Ab
/-- A run, and its row. -/
abbrev Plc := (Int × Int) × Nat
def pcells (l : List Plc) : List V := l.flatMap fun r => [.int .i64 r.1.1, .int .i64 r.1.2, .int .i64 (r.2 : Nat)]
theorem pcells_len : ∀ l, (pcells l).length = l.length * 3
  | [] => rfl
  | o :: l => by rw [pcells, List.flatMap_cons, List.length_append, show (l.flatMap _).length = _ from pcells_len l]; simp; omega
theorem pcells_snoc (l : List Plc) (r : Plc) : pcells (l ++ [r]) = pcells l ++ [.int .i64 r.1.1, .int .i64 r.1.2, .int .i64 (r.2 : Nat)] := by simp [pcells]
theorem pcells_at : ∀ {l : List Plc} {i : Nat} (hi : i < l.length), ((pcells l).drop (i * 3)).take 3 = [.int .i64 l[i].1.1, .int .i64 l[i].1.2, .int .i64 (l[i].2 : Nat)]
  | o :: l, 0, _ => by simp [pcells]
  | o :: l, i + 1, hi => by
    have := pcells_at (l := l) (i := i) (by simpa using hi)
    rw [show (i + 1) * 3 = 3 + i * 3 by omega, ← List.drop_drop]
    simpa [pcells] using this
def plRow (y : Nat) (l : List (Int × Int)) : List Plc := l.map fun r => (r, y)
section
variable {P : Prog} {H : Heap} {R : List As} {Q : Post}
structure RwS where
  j : Nat
  fv : V
  av : V
  F : List Nat
  PL : List Plc
set_option maxHeartbeats 1000000 in
theorem of_row {t : Tag Q} {s : Tag comps_Of_l5} {rv fv av row : V} {n y k : Nat} {F : List Nat} {ρ : Nat → Nat} {PL : List Plc} {B : List (Int × Int)}
    (hB : ∀ H', Hs H' R → Arr H' row 2 B.length (rcells B)) (hF : Fst F ρ) (hk : F.length = k) (hpl : PL.length = k) (hl : k + B.length ≤ 1048576) (hs : Hs H (Lst fv 1 F.length (iV F) :: Lst av 3 PL.length (pcells PL) :: R))
    (hK : ∀ fv' av' F' H' ex, Fst F' ρ → F'.length = k + B.length → Hs H' (Lst fv' 1 F'.length (iV F') :: Lst av' 3 (PL ++ plRow y B).length (pcells (PL ++ plRow y B)) :: R) →
      Q (.exit 2) ⟨(4, rv) :: (6, fv') :: (7, av') :: (8, .int .i64 (y : Nat)) :: (9, row) :: (10, .int .i64 (k : Nat)) :: (36, rv) :: (37, .int .i64 (n : Nat)) :: (38, .int .i64 (y : Nat)) :: (45, row) :: (46, .int .i64 (B.length : Nat)) :: (47, .int .i64 (B.length : Nat)) :: ex, []⟩ H') :
    loopL (Call P) [4, 6, 7, 8, 9, 10, 36, 37, 38, 45, 46, 47] comps_Of_l5 Q t s
      ⟨[(4, rv), (6, fv), (7, av), (8, .int .i64 (y : Nat)), (9, row), (10, .int .i64 (k : Nat)), (36, rv), (37, .int .i64 (n : Nat)), (38, .int .i64 (y : Nat)), (45, row), (46, .int .i64 (B.length : Nat)), (47, .int .i64 ((0 : Nat) : Int))], []⟩ H := by
  refine loop_dec (σ := RwS) (fun x => B.length - x.j) (fun x => ⟨[(4, rv), (6, x.fv), (7, x.av), (8, .int .i64 (y : Nat)), (9, row), (10, .int .i64 (k : Nat)), (36, rv), (37, .int .i64 (n : Nat)), (38, .int .i64 (y : Nat)), (45, row), (46, .int .i64 (B.length : Nat)), (47, .int .i64 (x.j : Nat))], []⟩)
    (fun x H => x.j ≤ B.length ∧ x.F.length = k + x.j ∧ Fst x.F ρ ∧ x.PL = PL ++ plRow y (B.take x.j) ∧ Hs H (Lst x.fv 1 x.F.length (iV x.F) :: Lst x.av 3 x.PL.length (pcells x.PL) :: R))
    (fun x H1 K ⟨hj, hl1, hf, hp, h1⟩ hn hx hrr => ?_) ⟨0, fv, av, F, PL⟩ H ⟨Nat.zero_le _, by rw [hk]; rfl, hF, by simp [plRow], hs⟩
  obtain ⟨j, fw, aw, G, PM⟩ := x
  dsimp only at hj hl1 hf hp h1 hn
  by_cases hlt : j < B.length
  · obtain ⟨xb, xo, xc, rfl, r1, _⟩ := rc_rd (hB _ h1.tail.tail) hlt
    have h2 := h1.alloc (l := [.int .i64 B[j].1, .int .i64 B[j].2])
    obtain ⟨sa, sc, se, rfl⟩ := h1.own.arr.shape
    obtain ⟨fw', H3, ha, hoo, hsm, hff⟩ := app_one h2.p1.own (M := [.int .i64 (G.length : Nat)]) (m := 1) (eb := 8) rfl rfl (by omega) (by omega)
    have h3 := h2.p1.lst' hsm hoo hff
    rw [next_new] at ha
    have c3 := rd_m h3.p1.cel 2 0
    rw [show (piece [V.int .i64 B[j].1, .int .i64 B[j].2] 0 2).map V.agg = some (.agg [.int .i64 B[j].1, .int .i64 B[j].2]) from rfl] at c3
    obtain ⟨aw', H4, ha2, hoo2, hsm2, hff2⟩ := app_one h3.p2.own (M := [.int .i64 B[j].1, .int .i64 B[j].2, .int .i64 (y : Nat)]) (m := 1) (eb := 24) rfl rfl (by omega) (by subst hp; simp [plRow]; omega)
    have h4 := h3.p2.lst' hsm2 hoo2 hff2
    simp -implicitDefEqProofs -dsimp (disch := omega) only [go_sem, dec_t, dec_f, comps_Of_l5, r1, Int.toNat_natCast, ha, c3, ha2, w64, cadd1]
    have e1 : iV (G ++ [G.length]) = iV G ++ [.int .i64 (G.length : Nat)] := iV_snoc _ _
    have e2 : pcells (PM ++ [((B[j].1, B[j].2), y)]) = pcells PM ++ [.int .i64 B[j].1, .int .i64 B[j].2, .int .i64 (y : Nat)] := pcells_snoc _ _
    refine hn ⟨j + 1, fw', aw', G ++ [G.length], PM ++ [((B[j].1, B[j].2), y)]⟩ H4 (by dsimp only; omega) ⟨hlt, by simp; omega, hf.app, ?_, ?_⟩
    · dsimp only
      rw [hp, List.append_assoc]
      congr 1
      rw [← List.take_append_getElem (l := B) hlt]
      simp only [plRow, List.map_append, List.map_cons, List.map_nil]
    · dsimp only
      rw [e1, e2, List.length_append, List.length_append]
      exact h4.p2.tail.p1
  · obtain rfl : j = B.length := by omega
    simp -implicitDefEqProofs -dsimp (disch := omega) only [go_sem, dec_t, dec_f, comps_Of_l5]
    rw [hx]
    rw [List.take_length] at hp
    subst hp
    exact hK fw aw G H1 _ hf hl1 h1
end
end Go.Ab
/- All rows' runs are placed and put together: the first loop of comps.Of. Conditions: none. -/
namespace Go.Ab
/-- The runs of the first y rows. -/
def allPl (rows : List (List (Int × Int))) : Nat → List Plc
  | 0 => []
  | y + 1 => allPl rows y ++ plRow y (rows.getD y [])
/-- What stands for each, behind the first y rows. -/
def rhoF (rows : List (List (Int × Int))) : Nat → (Nat → Nat)
  | 0 => fun i => i
  | y + 1 => if 0 < y then tch (rows.getD (y - 1) []) (rows.getD y []) ((allPl rows y).length - (rows.getD (y - 1) []).length) (allPl rows y).length (rhoF rows y) else rhoF rows y
theorem plRow_len (y : Nat) (l : List (Int × Int)) : (plRow y l).length = l.length := by simp [plRow]
theorem allPl_succ (rows : List (List (Int × Int))) (y : Nat) : (allPl rows (y + 1)).length = (allPl rows y).length + (rows.getD y []).length := by rw [allPl, List.length_append, plRow_len]
theorem allPl_mono (rows : List (List (Int × Int))) {y : Nat} : ∀ {n : Nat}, y ≤ n → (allPl rows y).length ≤ (allPl rows n).length
  | 0, h => by rw [show y = 0 by omega]; exact Nat.le_refl _
  | n + 1, h => by
    by_cases e : y = n + 1
    · rw [e]; exact Nat.le_refl _
    · have := allPl_mono rows (n := n) (show y ≤ n by omega)
      rw [allPl_succ]; omega
section
variable {P : Prog} {H : Heap} {R : List As} {Q : Post}
structure RsS where
  y : Nat
  fv : V
  av : V
  F : List Nat
set_option maxHeartbeats 1000000 in
theorem of_rows (hu : HasRu P) (hp : HasCo P) {t : Tag Q} {s : Tag comps_Of_l4} {rv : V} {rows : List (List (Int × Int))} (hr : RRd R rv rows) (hl : (allPl rows rows.length).length ≤ 1048576) (hn32 : rows.length ≤ 1048576) (hs : Hs H R)
    (hK : ∀ fv av F H' ex, Fst F (rhoF rows rows.length) → F.length = (allPl rows rows.length).length → Hs H' (Lst fv 1 F.length (iV F) :: Lst av 3 (allPl rows rows.length).length (pcells (allPl rows rows.length)) :: R) →
      Q (.exit 0) ⟨(4, rv) :: (6, fv) :: (7, av) :: ex, []⟩ H') :
    loopL (Call P) [4, 6, 7, 36, 37, 38] comps_Of_l4 Q t s ⟨[(4, rv), (6, .sl none 0 0 0), (7, .sl none 0 0 0), (36, rv), (37, .int .i64 (rows.length : Nat)), (38, .int .i64 ((0 : Nat) : Int))], []⟩ H := by
  obtain ⟨vals, hr⟩ := hr
  have h0 : Hs H (Lst (.sl none 0 0 0) 1 0 (iV []) :: Lst (.sl none 0 0 0) 3 0 (pcells []) :: R) := (hs.lst (Same.refl _ _) (own_nil _ 3) fun _ h => h.elim).lst (Same.refl _ _) (own_nil _ 1) fun _ h => h.elim
  obtain ⟨rp, rc, re, rfl⟩ := (hr H hs).1.shape
  refine loop_dec (σ := RsS) (fun x => rows.length - x.y) (fun x => ⟨[(4, .sl rp rows.length rc re), (6, x.fv), (7, x.av), (36, .sl rp rows.length rc re), (37, .int .i64 (rows.length : Nat)), (38, .int .i64 (x.y : Nat))], []⟩)
    (fun x H => x.y ≤ rows.length ∧ x.F.length = (allPl rows x.y).length ∧ Fst x.F (rhoF rows x.y) ∧ Hs H (Lst x.fv 1 x.F.length (iV x.F) :: Lst x.av 3 (allPl rows x.y).length (pcells (allPl rows x.y)) :: R))
    (fun x H1 K ⟨hy, hl1, hf, h1⟩ hn hx hrr => ?_) ⟨0, .sl none 0 0 0, .sl none 0 0 0, []⟩ H ⟨Nat.zero_le _, rfl, Fst.nil, h0⟩
  obtain ⟨y, fv, av, F⟩ := x
  dsimp only at hy hl1 hf h1 hn
  by_cases hlt : y < rows.length
  · obtain ⟨b, hb⟩ : ∃ B, rows[y]? = some B := ⟨_, List.getElem?_eq_getElem hlt⟩
    have eD : rows.getD y [] = b := by rw [List.getD_eq_getElem?_getD, hb]; rfl
    have hm := allPl_mono rows (show y + 1 ≤ rows.length from hlt)
    rw [allPl_succ, eD] at hm
    have rdrow : ∀ {H' : Heap} {i : Nat} {l : List (Int × Int)}, Hs H' R → rows[i]? = some l → ∃ xb xo u, rp = some (xb, xo) ∧ rd H' none xb (xo + i) = some u ∧ vals[i]? = some u ∧ re = 1 := fun {H' i l} h e => by
      have hi := (List.getElem?_eq_some_iff.1 e).1
      obtain ⟨u, hu1, _⟩ := (hr H' h).2 i l e
      obtain ⟨b', o', c', hv⟩ := (hr H' h).1.at0 (by omega)
      cases hv
      exact ⟨_, _, u, rfl, by rw [(hr H' h).1.rd1 hi]; exact hu1, hu1, rfl⟩
    obtain ⟨xb, xo, row, rfl, r1, hv1, rfl⟩ := rdrow h1.tail.tail hb
    have hB : ∀ H', Hs H' R → Arr H' row 2 b.length (rcells b) := fun H' h => by
      obtain ⟨u, hu1, hu2⟩ := (hr H' h).2 y b hb
      rw [hv1] at hu1; cases hu1; exact hu2
    obtain ⟨pp, pc, pe, rfl⟩ := (hB H1 h1.tail.tail).shape
    obtain ⟨ap, ac, ae, rfl⟩ := h1.p1.own.arr.shape
    simp -implicitDefEqProofs -dsimp (disch := omega) only [go_sem, dec_t, dec_f, comps_Of_l4, Int.toNat_natCast, Nat.mul_one, r1]
    refine of_row hB hf hl1 rfl (by omega) h1 fun fv2 av2 F2 H2 ex hf2 hl2 h2 => ?_
    have e3 : allPl rows (y + 1) = allPl rows y ++ plRow y b := by rw [allPl, eD]
    rw [← e3] at h2
    by_cases hy0 : 0 < y
    · obtain ⟨A, hA⟩ : ∃ A, rows[y - 1]? = some A := ⟨_, List.getElem?_eq_getElem (by omega)⟩
      have eA : rows.getD (y - 1) [] = A := by rw [List.getD_eq_getElem?_getD, hA]; rfl
      obtain ⟨xb', xo', abv, ev, r2, hv2, _⟩ := rdrow h2.tail.tail hA
      cases ev
      have hAA : ∀ H', Hs H' R → Arr H' abv 2 A.length (rcells A) := fun H' h => by
        obtain ⟨u, hu1, hu2⟩ := (hr H' h).2 (y - 1) A hA
        rw [hv2] at hu1; cases hu1; exact hu2
      obtain ⟨qp, qc, qe, rfl⟩ := (hAA H2 h2.tail.tail).shape
      have hAl : A.length ≤ (allPl rows y).length := by
        have := allPl_succ rows (y - 1)
        rw [show y - 1 + 1 = y by omega, eA] at this; omega
      have e4 : ((y : Nat) : Int) - 1 = ((y - 1 : Nat) : Int) := by omega
      have e5 : (((allPl rows y).length : Nat) : Int) - (A.length : Nat) = (((allPl rows y).length - A.length : Nat) : Int) := by omega
      simp -implicitDefEqProofs -dsimp (disch := omega) only [go_sem, dec_t, dec_f, w64, e4, Int.toNat_natCast, Nat.mul_one, r2, e5]
      refine touching_ct hu hp (R := Lst av2 3 (allPl rows (y + 1)).length (pcells (allPl rows (y + 1))) :: R) h2 hf2 (fun H' h => hAA H' h.tail) (fun H' h => hB H' h.tail) (by omega) (by omega) (by omega) fun F3 H3 q1 q2 q3 => ?_
      simp -implicitDefEqProofs -dsimp (disch := omega) only [go_sem, dec_t, dec_f, w64, cadd1]
      refine hn ⟨y + 1, fv2, av2, F3⟩ H3 (by dsimp only; omega) ⟨hlt, by dsimp only; rw [e3, List.length_append, plRow_len]; omega, ?_, q3⟩
      dsimp only
      rw [rhoF, if_pos hy0, eD, eA]; exact q2
    · have : y = 0 := by omega
      subst this
      simp -implicitDefEqProofs -dsimp (disch := omega) only [go_sem, dec_t, dec_f, w64, cadd1]
      refine hn ⟨0 + 1, fv2, av2, F2⟩ H2 (by dsimp only; omega) ⟨hlt, by dsimp only; rw [e3, List.length_append, plRow_len]; omega, ?_, h2⟩
      dsimp only
      rw [rhoF, if_neg (by omega)]; exact hf2
  · obtain rfl : y = rows.length := by omega
    simp -implicitDefEqProofs -dsimp (disch := omega) only [go_sem, dec_t, dec_f, comps_Of_l4]
    rw [hx]
    exact hK fv av F H1 _ hf hl1 h1
end
end Go.Ab
/- A run comes into its box. Conditions: none. -/
namespace Go.Ab
/-- A block, what it is. -/
def Ob (b : Nat) (o : Obj) : As where
  ok F H := (∀ x, F x ↔ x = b) ∧ H.get b = o ∧ b < H.next
  st := fun ⟨h1, h2, h3⟩ hn he => ⟨h1, (he b ((h1 b).2 rfl)).trans h2, Nat.lt_of_lt_of_le h3 hn⟩
  lt := fun ⟨h1, _, h3⟩ b hb => by have := (h1 b).1 hb; omega
theorem Hs.ob {H : Heap} {b : Nat} {o : Obj} {R : List As} (h : Hs H (Ob b o :: R)) : H.get b = o := by obtain ⟨F, h1, _⟩ := h; exact h1.2.1
theorem Hs.obm {H : Heap} {b : Nat} {o : Obj} {R : List As} (h : Hs H R) (hm : Ob b o ∈ R) : H.get b = o := (h.ofmem hm).ob
theorem Hs.obput {H : Heap} {b : Nat} {o o' : Obj} {R : List As} (h : Hs H (Ob b o :: R)) : Hs (H.put b o') (Ob b o' :: R) :=
  h.step fun F ⟨h1, h2, h3⟩ => ⟨fun x => x = b, F, Same.put rfl, fun x _ hx => (h1 x).2 hx, ⟨h1, by simp [get_put], h3⟩, fun _ h => Or.inl h⟩
theorem Hs.obnew {H : Heap} {o : Obj} {R : List As} (h : Hs H R) : Hs (H.new o) (Ob H.next o :: R) :=
  h.new (Same.new _ _ _) ⟨fun x => x = H.next, ⟨fun _ => Iff.rfl, by simp [get_new], by simp [next_new]⟩, fun b hb => by omega⟩
/-- A box, its runs. -/
structure BoxP where
  root : Nat
  x : Int
  y : Nat
  r : Int
  b : Nat
  l : List Plc
structure BoxR where
  p : BoxP
  blk : Nat
  lv : V
def BoxR.cs (b : BoxR) : List V := [.int .i64 b.p.x, .int .i64 (b.p.y : Nat), .int .i64 b.p.r, .int .i64 (b.p.b : Nat), b.lv]
def BoxR.as (b : BoxR) : List As := [Cel b.blk b.cs, Lst b.lv 3 b.p.l.length (pcells b.p.l)]
/-- One more run. -/
def BoxP.add (b : BoxP) (q : Plc) : BoxP := ⟨b.root, if q.1.1 < b.x then q.1.1 else b.x, b.y, if q.1.2 > b.r then q.1.2 else b.r, q.2 + 1, b.l ++ [q]⟩
/-- A run comes into its box. -/
def l3tail : Cd := (.seq (.reg true [6, 13, 15, 17, 84, 85, 86] [⟨some 118, .mv (.t 17), none, 0, []⟩,
    ⟨some 119, .mv (.t 17), none, 1, []⟩,
    ⟨some 120, .mv (.t 17), none, 2, []⟩,
    ⟨some 121, .mv (.t 17), none, 3, []⟩,
    ⟨some 122, .nilck (.t 121), none, 4, []⟩,
    ⟨some 123, .fad 0 (.t 122), none, 5, []⟩,
    ⟨some 124, .load none (.t 123), none, 6, []⟩,
    ⟨some 125, .fad 0 (.t 15), none, 7, []⟩,
    ⟨some 126, .fad 0 (.t 125), none, 8, []⟩,
    ⟨some 127, .load none (.t 126), none, 9, []⟩,
    ⟨some 128, .mm false [(.t 124), (.t 127)], none, 10, []⟩,
    ⟨some 129, .mv (.t 17), none, 11, []⟩,
    ⟨some 130, .nilck (.t 129), none, 12, []⟩,
    ⟨some 131, .fad 2 (.t 130), none, 13, []⟩,
    ⟨some 132, .load none (.t 131), none, 14, []⟩,
    ⟨some 133, .fad 0 (.t 15), none, 15, []⟩,
    ⟨some 134, .fad 1 (.t 133), none, 16, []⟩,
    ⟨some 135, .load none (.t 134), none, 17, []⟩,
    ⟨some 136, .mm true [(.t 132), (.t 135)], none, 18, []⟩,
    ⟨some 137, .fad 2 (.t 15), none, 19, []⟩,
    ⟨some 138, .load none (.t 137), none, 20, []⟩,
    ⟨some 139, .bin .add .num (.t 138) (.c (.int .i64 1)), none, 21, []⟩,
    ⟨some 140, .nilck (.t 118), none, 22, []⟩,
    ⟨some 141, .fad 0 (.t 140), none, 23, []⟩,
    ⟨none, .store 1 (.t 141) (.t 128), none, 24, [17, 20]⟩,
    ⟨some 142, .nilck (.t 119), none, 25, []⟩,
    ⟨some 143, .fad 2 (.t 142), none, 26, []⟩,
    ⟨none, .store 1 (.t 143) (.t 136), none, 27, [20]⟩,
    ⟨some 144, .nilck (.t 120), none, 28, []⟩,
    ⟨some 145, .fad 3 (.t 144), none, 29, []⟩,
    ⟨none, .store 1 (.t 145) (.t 139), none, 30, []⟩])
  (.reg true [6, 13, 84, 85, 86] [⟨some 146, .mv (.t 17), none, 0, []⟩,
    ⟨some 147, .mv (.t 17), none, 1, []⟩,
    ⟨some 148, .nilck (.t 147), none, 2, []⟩,
    ⟨some 149, .fad 4 (.t 148), none, 3, []⟩,
    ⟨some 150, .load none (.t 149), none, 4, []⟩,
    ⟨some 151, .load (some 3) (.t 15), none, 5, []⟩,
    ⟨some 152, .bslice 3 [.int .i64 0, .int .i64 0, .int .i64 0] 1 [(0, (.t 151))], none, 6, []⟩,
    ⟨some 153, .append 3 24 (.t 150) (.t 152), none, 7, []⟩,
    ⟨some 154, .nilck (.t 146), none, 8, []⟩,
    ⟨some 155, .fad 4 (.t 154), none, 9, []⟩,
    ⟨none, .store 1 (.t 155) (.t 153), none, 10, []⟩]))
theorem l3_eq : comps_Of_l3 = .seq (.reg false [6, 13, 84, 85, 86, 87] [⟨some 87, .bin .lss .num (.t 86) (.t 85), none, 0, []⟩])
  (.seq (.cond (.t 87) (.skip)
  (.exit 4))
  (.seq (.block 5 (.seq (.reg false [6, 13, 14, 15, 84, 85, 86] [⟨some 88, .mv (.t 86), none, 0, []⟩,
    ⟨some 89, .iad none 3 (.t 84) (.t 86), none, 0, []⟩,
    ⟨some 90, .load (some 3) (.t 89), none, 0, []⟩,
    ⟨some 15, .alloc [.int .i64 0, .int .i64 0, .int .i64 0], none, 0, []⟩,
    ⟨some 14, .mv (.t 88), none, 0, []⟩,
    ⟨none, .store 3 (.t 15) (.t 90), none, 0, []⟩])
  (.seq (.reg false [6, 13, 15, 16, 84, 85, 86] [⟨some 91, .mv (.t 6), none, 0, []⟩,
    ⟨some 92, .mv (.t 14), none, 0, []⟩,
    ⟨some 93, .call (.f 186) [(.t 91), (.t 92)], none, 0, []⟩,
    ⟨some 16, .mv (.t 93), none, 0, []⟩])
  (.seq (.reg false [6, 13, 15, 16, 17, 18, 84, 85, 86] [⟨some 95, .mv (.t 13), none, 0, []⟩,
    ⟨some 96, .mv (.t 16), none, 0, []⟩,
    ⟨some 97, .mp (.look (.ptr none) true (.t 95) (.t 96)), none, 0, []⟩,
    ⟨some 94, .mv (.t 97), none, 0, []⟩,
    ⟨some 98, .ext 0 (.t 94), none, 0, []⟩,
    ⟨some 99, .ext 1 (.t 94), none, 0, []⟩,
    ⟨some 17, .mv (.t 98), none, 0, []⟩,
    ⟨some 18, .mv (.t 99), none, 0, []⟩])
  (.seq (.seq (.reg false [6, 13, 15, 16, 17, 84, 85, 86, 101] [⟨some 100, .mv (.t 18), none, 0, []⟩,
    ⟨some 101, .un .not (.t 100), none, 0, []⟩])
  (.cond (.t 101) (.seq (.reg false [6, 13, 15, 16, 17, 84, 85, 86] [⟨some 102, .fad 0 (.t 15), none, 0, []⟩,
    ⟨some 103, .fad 0 (.t 102), none, 0, []⟩,
    ⟨some 104, .load none (.t 103), none, 0, []⟩,
    ⟨some 105, .fad 2 (.t 15), none, 0, []⟩,
    ⟨some 106, .load none (.t 105), none, 0, []⟩,
    ⟨some 107, .fad 0 (.t 15), none, 0, []⟩,
    ⟨some 108, .fad 1 (.t 107), none, 0, []⟩,
    ⟨some 109, .load none (.t 108), none, 0, []⟩,
    ⟨some 110, .fad 2 (.t 15), none, 0, []⟩,
    ⟨some 111, .load none (.t 110), none, 0, []⟩,
    ⟨some 112, .bin .add .num (.t 111) (.c (.int .i64 1)), none, 0, []⟩,
    ⟨some 113, .build [.int .i64 0, .int .i64 0, .int .i64 0, .int .i64 0, .sl none 0 0 0] [(0, 1, (.t 104)), (1, 1, (.t 106)), (2, 1, (.t 109)), (3, 1, (.t 112)), (4, 1, (.c (.sl none 0 0 0)))], none, 0, []⟩,
    ⟨some 114, .box 5 (.t 113), none, 0, []⟩,
    ⟨some 17, .mv (.t 114), none, 0, []⟩])
  (.reg false [6, 13, 15, 17, 84, 85, 86] [⟨some 115, .mv (.t 13), none, 0, []⟩,
    ⟨some 116, .mv (.t 16), none, 0, []⟩,
    ⟨some 117, .mv (.t 17), none, 0, []⟩,
    ⟨none, .mp (.upd (.t 115) (.t 116) (.t 117)), none, 0, []⟩]))
  (.skip)))
  l3tail)))))
  (.reg false [6, 13, 84, 85, 86] [⟨some 156, .bin .add .num (.t 86) (.c (.int .i64 1)), none, 0, []⟩,
    ⟨some 86, .mv (.t 156), none, 0, []⟩]))) := rfl
section
variable {P : Prog} {H : Heap} {R : List As} {Q : Post}
set_option maxHeartbeats 1000000 in
theorem of_upd {bx : BoxR} {c : Nat} {q : Plc} {fv mv av : V} {n i : Nat} (hs : Hs H (bx.as ++ (Cel c [.int .i64 q.1.1, .int .i64 q.1.2, .int .i64 (q.2 : Nat)] :: R))) (hq : q.2 < 1048576) (hn : bx.p.l.length ≤ 1048576)
    (hK : ∀ (bx' : BoxR) (H' : Heap), bx'.p = bx.p.add q → bx'.blk = bx.blk → Hs H' (bx'.as ++ R) → Q .normal ⟨[(6, fv), (13, mv), (84, av), (85, .int .i64 (n : Nat)), (86, .int .i64 (i : Nat))], []⟩ H') :
    wpC (Call P) l3tail Q ⟨[(6, fv), (13, mv), (15, .ptr (some (c, 0))), (17, .ptr (some (bx.blk, 0))), (84, av), (85, .int .i64 (n : Nat)), (86, .int .i64 (i : Nat))], []⟩ H := by
  obtain ⟨⟨rt, x, y, r, b, l⟩, blk, lv⟩ := bx
  obtain ⟨⟨q1, q2⟩, qy⟩ := q
  dsimp only at hq hn
  have h1 : Hs H ([Cel blk [.int .i64 x, .int .i64 (y : Nat), .int .i64 r, .int .i64 (b : Nat), lv], Lst lv 3 l.length (pcells l), Cel c [.int .i64 q1, .int .i64 q2, .int .i64 (qy : Nat)]] ++ R) := hs
  have a1 := rd_s h1.cel
  have a2 := rd_s (h1.celm (b := c) (l := [.int .i64 q1, .int .i64 q2, .int .i64 (qy : Nat)]) (by simp))
  obtain ⟨H2, w2, h2⟩ := Hs.sto 0 h1 rfl (o := 0) (vs := [.int .i64 (if q1 < x then q1 else x)]) (by simp) rfl
  have b2 := rd_s (h2.celm (b := c) (l := [.int .i64 q1, .int .i64 q2, .int .i64 (qy : Nat)]) (by simp))
  obtain ⟨H3, w3, h3⟩ := Hs.sto 0 h2 rfl (o := 2) (vs := [.int .i64 (if q2 > r then q2 else r)]) (by simp [over]) rfl
  have b3 := rd_s (h3.celm (b := c) (l := [.int .i64 q1, .int .i64 q2, .int .i64 (qy : Nat)]) (by simp))
  obtain ⟨H4, w4, h4⟩ := Hs.sto 0 h3 rfl (o := 3) (vs := [.int .i64 ((qy + 1 : Nat) : Int)]) (by simp [over]) rfl
  have b4 := rd_m (h4.celm (b := c) (l := [.int .i64 q1, .int .i64 q2, .int .i64 (qy : Nat)]) (by simp)) 3 0
  rw [show (piece [V.int .i64 q1, .int .i64 q2, .int .i64 (qy : Nat)] 0 3).map V.agg = some (.agg [.int .i64 q1, .int .i64 q2, .int .i64 (qy : Nat)]) from rfl] at b4
  have a4 := rd_s h4.cel 4
  rw [show (over (over (over [V.int .i64 x, .int .i64 (y : Nat), .int .i64 r, .int .i64 (b : Nat), lv] 0 [.int .i64 (if q1 < x then q1 else x)]) 2 [.int .i64 (if q2 > r then q2 else r)]) 3 [.int .i64 ((qy + 1 : Nat) : Int)])[4]? = some lv from rfl] at a4
  have h5 : Hs H4 (Lst lv 3 l.length (pcells l) :: Cel blk [.int .i64 (if q1 < x then q1 else x), .int .i64 (y : Nat), .int .i64 (if q2 > r then q2 else r), .int .i64 ((qy + 1 : Nat) : Int), lv] :: Cel c [.int .i64 q1, .int .i64 q2, .int .i64 (qy : Nat)] :: R) := Hs.p1 h4
  obtain ⟨lv', H5, ha, hoo, hsm, hff⟩ := app_one h5.own (M := [.int .i64 q1, .int .i64 q2, .int .i64 (qy : Nat)]) (m := 1) (eb := 24) rfl rfl (by omega) (by omega)
  have h6 := h5.lst' hsm hoo hff
  obtain ⟨ma, mc, me, rfl⟩ := hoo.arr.shape
  obtain ⟨H6, w6, h7⟩ := Hs.sto 1 h6 rfl (o := 4) (vs := [.sl ma (l.length + 1) mc me]) (by simp) rfl
  have ey : ((qy : Nat) : Int) + 1 = ((qy + 1 : Nat) : Int) := rfl
  obtain ⟨la, lc, le, rfl⟩ := h5.own.arr.shape
  simp -implicitDefEqProofs -dsimp (disch := omega) only [go_sem, dec_t, dec_f, l3tail, a1, a2, Int.toNat_natCast, w2, w64, ey]
  refine aft_intro (t := tag _) (by simp [rechecks, recheck, fresh, Fr.get, Fr.put, look, step, opd, b2]) ?_
  simp -implicitDefEqProofs -dsimp (disch := omega) only [go_sem, dec_t, dec_f, w3]
  refine aft_intro (t := tag _) (by simp [rechecks, recheck, fresh, Fr.get, Fr.put, look, step, opd, b3]) ?_
  simp -implicitDefEqProofs -dsimp (disch := omega) only [go_sem, dec_t, dec_f, w4, a4, b4, ha, w6]
  refine hK ⟨BoxP.add ⟨rt, x, y, r, b, l⟩ ((q1, q2), qy), blk, .sl ma (l.length + 1) mc me⟩ H6 rfl rfl ?_
  have h8 := h7.p1
  unfold BoxP.add BoxR.as BoxR.cs
  dsimp only
  rw [pcells_snoc, List.length_append]
  exact h8.p2.tail
set_option maxHeartbeats 1000000 in
theorem of_upd2 {bx : BoxR} {c : Nat} {q : Plc} {fv mv av z16 : V} {n i : Nat} (hs : Hs H (bx.as ++ (Cel c [.int .i64 q.1.1, .int .i64 q.1.2, .int .i64 (q.2 : Nat)] :: R))) (hq : q.2 < 1048576) (hn : bx.p.l.length ≤ 1048576)
    (hK : ∀ (bx' : BoxR) (H' : Heap), bx'.p = bx.p.add q → bx'.blk = bx.blk → Hs H' (bx'.as ++ R) → Q .normal ⟨[(6, fv), (13, mv), (84, av), (85, .int .i64 (n : Nat)), (86, .int .i64 (i : Nat))], []⟩ H') :
    wpC (Call P) l3tail Q ⟨[(6, fv), (13, mv), (15, .ptr (some (c, 0))), (16, z16), (17, .ptr (some (bx.blk, 0))), (84, av), (85, .int .i64 (n : Nat)), (86, .int .i64 (i : Nat)), (101, .bool false)], []⟩ H := by
  obtain ⟨⟨rt, x, y, r, b, l⟩, blk, lv⟩ := bx
  obtain ⟨⟨q1, q2⟩, qy⟩ := q
  dsimp only at hq hn
  have h1 : Hs H ([Cel blk [.int .i64 x, .int .i64 (y : Nat), .int .i64 r, .int .i64 (b : Nat), lv], Lst lv 3 l.length (pcells l), Cel c [.int .i64 q1, .int .i64 q2, .int .i64 (qy : Nat)]] ++ R) := hs
  have a1 := rd_s h1.cel
  have a2 := rd_s (h1.celm (b := c) (l := [.int .i64 q1, .int .i64 q2, .int .i64 (qy : Nat)]) (by simp))
  obtain ⟨H2, w2, h2⟩ := Hs.sto 0 h1 rfl (o := 0) (vs := [.int .i64 (if q1 < x then q1 else x)]) (by simp) rfl
  have b2 := rd_s (h2.celm (b := c) (l := [.int .i64 q1, .int .i64 q2, .int .i64 (qy : Nat)]) (by simp))
  obtain ⟨H3, w3, h3⟩ := Hs.sto 0 h2 rfl (o := 2) (vs := [.int .i64 (if q2 > r then q2 else r)]) (by simp [over]) rfl
  have b3 := rd_s (h3.celm (b := c) (l := [.int .i64 q1, .int .i64 q2, .int .i64 (qy : Nat)]) (by simp))
  obtain ⟨H4, w4, h4⟩ := Hs.sto 0 h3 rfl (o := 3) (vs := [.int .i64 ((qy + 1 : Nat) : Int)]) (by simp [over]) rfl
  have b4 := rd_m (h4.celm (b := c) (l := [.int .i64 q1, .int .i64 q2, .int .i64 (qy : Nat)]) (by simp)) 3 0
  rw [show (piece [V.int .i64 q1, .int .i64 q2, .int .i64 (qy : Nat)] 0 3).map V.agg = some (.agg [.int .i64 q1, .int .i64 q2, .int .i64 (qy : Nat)]) from rfl] at b4
  have a4 := rd_s h4.cel 4
  rw [show (over (over (over [V.int .i64 x, .int .i64 (y : Nat), .int .i64 r, .int .i64 (b : Nat), lv] 0 [.int .i64 (if q1 < x then q1 else x)]) 2 [.int .i64 (if q2 > r then q2 else r)]) 3 [.int .i64 ((qy + 1 : Nat) : Int)])[4]? = some lv from rfl] at a4
  have h5 : Hs H4 (Lst lv 3 l.length (pcells l) :: Cel blk [.int .i64 (if q1 < x then q1 else x), .int .i64 (y : Nat), .int .i64 (if q2 > r then q2 else r), .int .i64 ((qy + 1 : Nat) : Int), lv] :: Cel c [.int .i64 q1, .int .i64 q2, .int .i64 (qy : Nat)] :: R) := Hs.p1 h4
  obtain ⟨lv', H5, ha, hoo, hsm, hff⟩ := app_one h5.own (M := [.int .i64 q1, .int .i64 q2, .int .i64 (qy : Nat)]) (m := 1) (eb := 24) rfl rfl (by omega) (by omega)
  have h6 := h5.lst' hsm hoo hff
  obtain ⟨ma, mc, me, rfl⟩ := hoo.arr.shape
  obtain ⟨H6, w6, h7⟩ := Hs.sto 1 h6 rfl (o := 4) (vs := [.sl ma (l.length + 1) mc me]) (by simp) rfl
  have ey : ((qy : Nat) : Int) + 1 = ((qy + 1 : Nat) : Int) := rfl
  obtain ⟨la, lc, le, rfl⟩ := h5.own.arr.shape
  simp -implicitDefEqProofs -dsimp (disch := omega) only [go_sem, dec_t, dec_f, l3tail, a1, a2, Int.toNat_natCast, w2, w64, ey]
  refine aft_intro (t := tag _) (by simp [rechecks, recheck, fresh, Fr.get, Fr.put, look, step, opd, b2]) ?_
  simp -implicitDefEqProofs -dsimp (disch := omega) only [go_sem, dec_t, dec_f, w3]
  refine aft_intro (t := tag _) (by simp [rechecks, recheck, fresh, Fr.get, Fr.put, look, step, opd, b3]) ?_
  simp -implicitDefEqProofs -dsimp (disch := omega) only [go_sem, dec_t, dec_f, w4, a4, b4, ha, w6]
  refine hK ⟨BoxP.add ⟨rt, x, y, r, b, l⟩ ((q1, q2), qy), blk, .sl ma (l.length + 1) mc me⟩ H6 rfl rfl ?_
  have h8 := h7.p1
  unfold BoxP.add BoxR.as BoxR.cs
  dsimp only
  rw [pcells_snoc, List.length_append]
  exact h8.p2.tail
end
end Go.Ab
/- Runs come into boxes: the second loop of comps.Of. Conditions: none. -/
namespace Go.Ab
/-- A run comes into the box of its root. -/
def addB : List BoxP → Nat → Plc → List BoxP
  | [], root, q => [BoxP.add ⟨root, q.1.1, q.2, q.1.2, q.2 + 1, []⟩ q]
  | b :: r, root, q => if b.root = root then b.add q :: r else b :: addB r root q
/-- The boxes of the first i runs. -/
def boxes (ρ : Nat → Nat) (PL : List Plc) : Nat → List BoxP
  | 0 => []
  | i + 1 => match PL[i]? with | some q => addB (boxes ρ PL i) (ρ i) q | none => boxes ρ PL i
def esB (BS : List BoxR) : List (Int × V) := BS.map fun b => (((b.p.root : Nat) : Int), V.ptr (some (b.blk, 0)))
theorem es_cases : ∀ (BS : List BoxR) (root : Nat) (q : Plc),
    (mget (esB BS) root = none ∧ addB (BS.map BoxR.p) root q = BS.map BoxR.p ++ [BoxP.add ⟨root, q.1.1, q.2, q.1.2, q.2 + 1, []⟩ q] ∧ ∀ v, mput (esB BS) root v = esB BS ++ [((root : Int), v)]) ∨
    ∃ pre b post, BS = pre ++ b :: post ∧ b.p.root = root ∧ mget (esB BS) root = some (.ptr (some (b.blk, 0))) ∧ addB (BS.map BoxR.p) root q = pre.map BoxR.p ++ b.p.add q :: post.map BoxR.p
  | [], root, q => .inl ⟨rfl, rfl, fun _ => rfl⟩
  | b :: BS, root, q => by
    by_cases h : b.p.root = root
    · exact .inr ⟨[], b, BS, rfl, h, by simp [esB, mget, h], by simp [addB, h]⟩
    · have hi : ¬ ((root : Nat) : Int) = ((b.p.root : Nat) : Int) := by omega
      rcases es_cases BS root q with ⟨h1, h2, h3⟩ | ⟨pre, c, post, rfl, h2, h3, h4⟩
      · refine .inl ⟨?_, ?_, fun v => ?_⟩
        · show mget (_ :: esB BS) _ = _
          rw [mget, if_neg hi]; exact h1
        · show addB (b.p :: BS.map BoxR.p) root q = _
          rw [addB, if_neg h, h2]; rfl
        · show mput (_ :: esB BS) _ v = _
          rw [mput, if_neg hi, h3]; rfl
      · refine .inr ⟨b :: pre, c, post, rfl, h2, ?_, ?_⟩
        · show mget (_ :: esB (pre ++ c :: post)) _ = _
          rw [mget, if_neg hi]; exact h3
        · show addB (b.p :: (pre ++ c :: post).map BoxR.p) root q = _
          rw [addB, if_neg h, h4]; rfl
theorem pc_rd {H : Heap} {v : V} {L : List Plc} (h : Arr H v 3 L.length (pcells L)) {a : Nat} (ha : a < L.length) :
    ∃ b o c, v = .sl (some (b, o)) L.length c 3 ∧ rd H (some 3) b (o + a * 3) = some (.agg [.int .i64 L[a].1.1, .int .i64 L[a].1.2, .int .i64 (L[a].2 : Nat)]) := by
  obtain ⟨b, o, c, rfl, _, h1, h2⟩ := h.at ha
  refine ⟨b, o, c, rfl, ?_⟩
  have := h2 0 3 (by omega)
  rw [Nat.add_zero, Nat.add_zero, pcells_at ha] at this; exact this
theorem box_perm (a c d e : As) (pre post : List BoxR) (b : BoxR) (R : List As) :
    (a :: c :: d :: e :: ((pre ++ b :: post).flatMap BoxR.as ++ R)).Perm (b.as ++ (c :: a :: d :: e :: (pre.flatMap BoxR.as ++ (post.flatMap BoxR.as ++ R)))) := by
  classical
  refine List.perm_iff_count.2 fun x => ?_
  simp only [List.flatMap_append, List.flatMap_cons, List.count_append, List.count_cons]
  ac_rfl
theorem box_perm2 (a d e : As) (pre post : List BoxR) (b : BoxR) (R : List As) :
    (b.as ++ (a :: d :: e :: (pre.flatMap BoxR.as ++ (post.flatMap BoxR.as ++ R)))).Perm (a :: d :: e :: ((pre ++ b :: post).flatMap BoxR.as ++ R)) := by
  classical
  refine List.perm_iff_count.2 fun x => ?_
  simp only [List.flatMap_append, List.flatMap_cons, List.count_append, List.count_cons]
  ac_rfl
theorem addB_len : ∀ (bs : List BoxP) (root : Nat) (q : Plc) (n : Nat), (∀ b ∈ bs, b.l.length ≤ n) → ∀ b ∈ addB bs root q, b.l.length ≤ n + 1
  | [], root, q, n, _, b, hb => by simp [addB, BoxP.add] at hb; subst hb; simp
  | c :: bs, root, q, n, h, b, hb => by
    unfold addB at hb
    split at hb
    · rcases List.mem_cons.1 hb with rfl | hb
      · have := h c (List.mem_cons_self ..); simp [BoxP.add]; omega
      · have := h b (List.mem_cons_of_mem _ hb); omega
    · rcases List.mem_cons.1 hb with rfl | hb
      · have := h b (List.mem_cons_self ..); omega
      · exact addB_len bs root q n (fun x hx => h x (List.mem_cons_of_mem _ hx)) b hb
theorem boxes_len (ρ : Nat → Nat) (PL : List Plc) : ∀ i, ∀ b ∈ boxes ρ PL i, b.l.length ≤ i
  | 0, b, hb => by simp [boxes] at hb
  | i + 1, b, hb => by
    unfold boxes at hb
    split at hb
    · exact addB_len _ _ _ i (boxes_len ρ PL i) b hb
    · have := boxes_len ρ PL i b hb; omega
section
variable {P : Prog} {H : Heap} {R : List As} {Q : Post}
structure BxS where
  i : Nat
  F : List Nat
  BS : List BoxR
set_option maxHeartbeats 1000000 in
theorem of_boxes (hp : HasCo P) {t : Tag Q} {s : Tag comps_Of_l3} {fv av : V} {m : Nat} {F : List Nat} {ρ : Nat → Nat} {PL : List Plc} (hF : Fst F ρ) (hFl : F.length = PL.length) (hl : PL.length ≤ 1048576) (hy : ∀ q ∈ PL, q.2 < 1048576)
    (hs : Hs H (Lst fv 1 F.length (iV F) :: Lst av 3 PL.length (pcells PL) :: Ob m (.map []) :: R))
    (hK : ∀ F' BS H' ex, BS.map BoxR.p = boxes ρ PL PL.length → Hs H' (Lst fv 1 F.length (iV F') :: Lst av 3 PL.length (pcells PL) :: Ob m (.map (esB BS)) :: (BS.flatMap BoxR.as ++ R)) →
      Q (.exit 4) ⟨(6, fv) :: (13, .map (some m)) :: ex, []⟩ H') :
    loopL (Call P) [6, 13, 84, 85, 86] comps_Of_l3 Q t s ⟨[(6, fv), (13, .map (some m)), (84, av), (85, .int .i64 (PL.length : Nat)), (86, .int .i64 ((0 : Nat) : Int))], []⟩ H := by
  refine loop_dec (σ := BxS) (fun x => PL.length - x.i) (fun x => ⟨[(6, fv), (13, .map (some m)), (84, av), (85, .int .i64 (PL.length : Nat)), (86, .int .i64 (x.i : Nat))], []⟩)
    (fun x H => x.i ≤ PL.length ∧ x.F.length = F.length ∧ Fst x.F ρ ∧ x.BS.map BoxR.p = boxes ρ PL x.i ∧ Hs H (Lst fv 1 x.F.length (iV x.F) :: Lst av 3 PL.length (pcells PL) :: Ob m (.map (esB x.BS)) :: (x.BS.flatMap BoxR.as ++ R)))
    (fun x H1 K ⟨hi, hl1, hf, hbs, h1⟩ hn hx hrr => ?_) ⟨0, F, []⟩ H ⟨Nat.zero_le _, rfl, hF, rfl, hs⟩
  obtain ⟨i, G, BS⟩ := x
  dsimp only at hi hl1 hf hbs h1 hn
  by_cases hlt : i < PL.length
  · obtain ⟨ab, ao, ac, rfl, r1⟩ := pc_rd h1.p1.own.arr hlt
    have hq0 := hy _ (List.getElem_mem hlt)
    have eQ := List.getElem?_eq_getElem hlt
    generalize PL[i] = q at r1 hq0 eQ
    obtain ⟨⟨q1, q2⟩, qy⟩ := q
    have h2 := h1.alloc (l := [.int .i64 q1, .int .i64 q2, .int .i64 (qy : Nat)])
    rw [l3_eq]
    simp -implicitDefEqProofs -dsimp (disch := omega) only [go_sem, dec_t, dec_f, Int.toNat_natCast, r1]
    refine root_ct hp h2.p1 hf (by omega) fun G2 H2 hgl hf2 h3 => ?_
    have hm : H2.get m = .map (esB BS) := h3.obm (by simp)
    have eB : boxes ρ PL (i + 1) = addB (BS.map BoxR.p) (ρ i) ((q1, q2), qy) := by rw [boxes, eQ, hbs]
    rcases es_cases BS (ρ i) ((q1, q2), qy) with ⟨g1, g2, g3⟩ | ⟨pre, b, post, rfl, g2, g3, g4⟩
    · have cc := rd_s (h3.celm (b := H1.next) (l := [.int .i64 q1, .int .i64 q2, .int .i64 (qy : Nat)]) (by simp))
      have h4 := h3.alloc (l := [.int .i64 q1, .int .i64 (qy : Nat), .int .i64 q2, .int .i64 ((qy + 1 : Nat) : Int), .sl none 0 0 0])
      have hml : m < H2.next := by
        obtain ⟨F0, k1, _⟩ := (h3.ofmem (A := Ob m (.map (esB BS))) (by simp))
        exact k1.2.2
      have hne : ¬ m = H2.next := by omega
      have ey : ((qy : Nat) : Int) + 1 = ((qy + 1 : Nat) : Int) := rfl
      have h5 := (h4.p4).obput (o' := .map (mput (esB BS) (ρ i : Nat) (.ptr (some (H2.next, 0)))))
      simp -implicitDefEqProofs -dsimp (disch := omega) only [go_sem, dec_t, dec_f, hm, g1, cc, w64, ey, hne, if_false]
      rw [g3] at h5 ⊢
      have h6 : Hs _ (Lst (.sl none 0 0 0) 3 0 (pcells []) :: _) := h5.lst (Same.refl _ _) (own_nil _ 3) fun _ h => h.elim
      let bx : BoxR := ⟨⟨ρ i, q1, qy, q2, qy + 1, []⟩, H2.next, .sl none 0 0 0⟩
      have h7 := Hs.perm (L' := bx.as ++ (Cel H1.next [.int .i64 q1, .int .i64 q2, .int .i64 (qy : Nat)] :: (Lst fv 1 G2.length (iV G2) :: Lst (.sl (some (ab, ao)) PL.length ac 3) 3 PL.length (pcells PL) ::
        Ob m (.map (esB BS ++ [(((ρ i : Nat) : Int), .ptr (some (H2.next, 0)))])) :: (BS.flatMap BoxR.as ++ R)))) h6 (by
          classical
          refine List.perm_iff_count.2 fun x => ?_
          simp only [bx, BoxR.as, BoxR.cs, List.count_append, List.count_cons, List.count_nil, List.length_nil]
          ac_rfl)
      refine of_upd (bx := bx) (q := ((q1, q2), qy)) h7 hq0 (Nat.zero_le _) fun bx' H4 e1 e2 h8 => ?_
      have eEs : esB (BS ++ [bx']) = esB BS ++ [(((ρ i : Nat) : Int), .ptr (some (H2.next, 0)))] := by simp [esB, e1, e2, BoxP.add, bx]
      simp -implicitDefEqProofs -dsimp (disch := omega) only [go_sem, dec_t, dec_f, w64, cadd1]
      refine hn ⟨i + 1, G2, BS ++ [bx']⟩ H4 (by dsimp only; omega) ⟨hlt, by dsimp only; omega, hf2, ?_, ?_⟩
      · dsimp only
        rw [eB, g2, List.map_append, List.map_cons, List.map_nil, e1]
      · dsimp only
        rw [eEs]
        refine Hs.perm h8 ?_
        classical
        refine List.perm_iff_count.2 fun x => ?_
        simp only [List.flatMap_append, List.flatMap_cons, List.flatMap_nil, List.append_nil, List.count_append, List.count_cons]
        ac_rfl
    · simp -implicitDefEqProofs -dsimp (disch := omega) only [go_sem, dec_t, dec_f, hm, g3]
      have hbl : b.p.l.length ≤ 1048576 := by
        have := boxes_len ρ PL i b.p (by rw [← hbs]; simp)
        omega
      refine of_upd2 (bx := b) (q := ((q1, q2), qy)) (Hs.perm h3 (box_perm _ _ _ _ pre post b R)) hq0 hbl fun bx' H4 e1 e2 h8 => ?_
      have eEs : esB (pre ++ bx' :: post) = esB (pre ++ b :: post) := by simp [esB, e1, e2, BoxP.add]
      simp -implicitDefEqProofs -dsimp (disch := omega) only [go_sem, dec_t, dec_f, w64, cadd1]
      refine hn ⟨i + 1, G2, pre ++ bx' :: post⟩ H4 (by dsimp only; omega) ⟨hlt, by dsimp only; omega, hf2, ?_, ?_⟩
      · dsimp only
        rw [eB, g4, List.map_append, List.map_cons, e1]
      · dsimp only
        rw [eEs]
        exact Hs.perm h8 (box_perm2 _ _ _ pre post bx' R)
  · obtain rfl : i = PL.length := by omega
    simp -implicitDefEqProofs -dsimp (disch := omega) only [go_sem, dec_t, dec_f, comps_Of_l3]
    rw [hx]
    refine hK G BS H1 _ hbs ?_
    rw [← hl1]; exact h1
end
end Go.Ab
/- The roots are collected in whatever order, and sorted. Conditions: none. -/
namespace Go.Ab
def zV (l : List Int) : List V := l.map (V.int .i64)
theorem zV_len (l : List Int) : (zV l).length = l.length := by simp [zV]
def srtd (l : List Int) : List Int := l.mergeSort fun x y => decide (x ≤ y)
theorem srtd_len (l : List Int) : (srtd l).length = l.length := List.length_mergeSort _
theorem over_all (l vs : List V) (h : vs.length = l.length) : over l 0 vs = vs := by
  unfold over; simp [h]
/-- A strictly rising list is what a permutation of it is sorted into. -/
theorem rise_uniq : ∀ {l l' : List Int}, l.Perm l' → l.Pairwise (· ≤ ·) → l'.Pairwise (· < ·) → l = l'
  | [], l', p, _, _ => by rw [List.nil_perm.1 p]
  | a :: l, [], p, _, _ => absurd p.length_eq (by simp)
  | a :: l, b :: l', p, h, h' => by
    obtain ⟨h1, h2⟩ := List.pairwise_cons.1 h
    obtain ⟨k1, k2⟩ := List.pairwise_cons.1 h'
    have e : a = b := by
      have m1 : b ∈ a :: l := p.mem_iff.2 (List.mem_cons_self ..)
      have m2 : a ∈ b :: l' := p.mem_iff.1 (List.mem_cons_self ..)
      rcases List.mem_cons.1 m1 with e | m1
      · exact e.symm
      · rcases List.mem_cons.1 m2 with e | m2
        · exact e
        · have := h1 b m1; have := k1 a m2; omega
    subst e
    rw [rise_uniq (List.perm_cons a |>.1 p) h2 k2]
theorem srtd_of {l l' : List Int} (p : l.Perm l') (h : l'.Pairwise (· < ·)) : srtd l = l' := by
  refine rise_uniq ((List.mergeSort_perm _ _).trans p) ?_ h
  have := List.pairwise_mergeSort (le := fun (x y : Int) => decide (x ≤ y)) (fun a b c h1 h2 => by simp at h1 h2 ⊢; omega) (fun a b => by simp; omega) l
  exact this.imp fun h => by simpa using h
section
variable {P : Prog} {H : Heap} {R : List As}
theorem sort_ct {Q : Out → Heap → Prop} (hp : HasCo P) {rv : V} {zs : List Int} (hs : Hs H (Lst rv 1 zs.length (zV zs) :: R)) (hl : zs.length < 4611686018427387904)
    (hQ : ∀ H', Hs H' (Lst rv 1 zs.length (zV (srtd zs)) :: R) → Q (.ret (.tup [])) H') : Call P 185 [rv] H Q := by
  refine call_of hp.h_slices_Sort_int_int rfl ?_
  have fin : ∀ H', Hs H' (Lst rv 1 zs.length (zV (srtd zs)) :: R) → fin P false [] Q .ret ⟨frame0 0 [rv], []⟩ H' := fun H' h => by
    have := hQ H' h
    simp only [frame0]
    simp -implicitDefEqProofs -dsimp (disch := omega) only [go_sem, dec_t, dec_f, ]
    exact this
  show srt (some rv) H _
  rcases hs.own with ⟨rfl, hn, hL⟩ | ⟨b, rfl, hg, hlen, hb⟩
  · refine ⟨none, 0, 0, 0, rfl, .inl ⟨rfl, fin H ?_⟩⟩
    have : zs = [] := List.length_eq_zero_iff.1 hn
    subst this; rw [show srtd [] = [] from by simp [srtd]]; exact hs
  · refine ⟨some (b, 0), zs.length, zs.length, 1, rfl, ?_⟩
    rcases Nat.eq_zero_or_pos zs.length with h0 | h0
    · have : zs = [] := List.length_eq_zero_iff.1 h0
      subst this
      exact .inl ⟨rfl, fin H (by rw [show srtd [] = [] from by simp [srtd]]; exact hs)⟩
    · refine .inr ⟨b, 0, zV zs, zs, h0, rfl, rfl, hg, rfl, hl, by rw [zV_len]; omega, fun i n e => by rw [Nat.zero_add]; simp [zV, e], fin _ ?_⟩
      have e : over (zV zs) 0 ((zs.mergeSort fun x y => decide (x ≤ y)).map (V.int .i64)) = zV (srtd zs) := over_all _ _ (by simp [zV])
      rw [e]
      refine hs.lst' (Same.put rfl) (.inr ⟨b, rfl, by simp [get_put], by rw [zV_len, srtd_len]; omega, by simpa [next_put] using hb⟩) fun x hx => .inl hx
theorem nodup_le : ∀ (n : Nat) (l : List Nat), l.Nodup → (∀ x ∈ l, x < n) → l.length ≤ n
  | 0, [], _, _ => Nat.le_refl _
  | 0, a :: l, _, h => by have := h a (List.mem_cons_self ..); omega
  | n + 1, l, hn, h => by
    have ih := nodup_le n (l.erase n) (hn.erase n) fun x hx => by
      obtain ⟨h1, h2⟩ := hn.mem_erase_iff.1 hx
      have := h x h2; omega
    by_cases hm : n ∈ l
    · rw [List.length_erase_of_mem hm] at ih; omega
    · rw [List.erase_of_not_mem hm] at ih; omega
structure RaS where
  seen : List Nat
  rv : V
def roots (BS : List BoxR) : List Int := BS.map fun b => ((b.p.root : Nat) : Int)
theorem roots_perm {rs : List Int} {seen : List Nat} (h1 : seen.Nodup) (h2 : ∀ i ∈ seen, i < rs.length) (h3 : ∀ i, i < rs.length → i ∈ seen) : (seen.map fun i => rs.getD i 0).Perm rs := by
  have p : seen.Perm (List.range rs.length) := (List.perm_ext_iff_of_nodup h1 List.nodup_range).2 fun i => by
    rw [List.mem_range]; exact ⟨h2 i, h3 i⟩
  have e : (List.range rs.length).map (fun i => rs.getD i 0) = rs := by
    apply List.ext_getElem (by simp)
    intro i _ h
    simp [List.getD_eq_getElem?_getD, List.getElem?_eq_getElem h]
  have := p.map fun i => rs.getD i 0
  rwa [e] at this
set_option maxHeartbeats 1000000 in
theorem of_range {Q : Post} {t : Tag Q} {s : Tag comps_Of_l2} {m ib : Nat} {BS : List BoxR} (hb : BS.length ≤ 1048576)
    (hs : Hs H (Lst (.sl none 0 0 0) 1 0 (zV []) :: Ob ib (.iter m BS.length []) :: Ob m (.map (esB BS)) :: R))
    (hK : ∀ rv zs H' ex, zs.Perm (roots BS) → Hs H' (Lst rv 1 zs.length (zV zs) :: Ob m (.map (esB BS)) :: R) → Q (.exit 6) ⟨(13, .map (some m)) :: (19, rv) :: ex, []⟩ H') :
    loopL (Call P) [13, 19, 158] comps_Of_l2 Q t s ⟨[(13, .map (some m)), (19, .sl none 0 0 0), (158, .ptr (some (ib, 0)))], []⟩ H := by
  have el : (esB BS).length = BS.length := by simp [esB]
  have rl : (roots BS).length = BS.length := by simp [roots]
  refine loop_dec (σ := RaS) (fun x => BS.length - x.seen.length) (fun x => ⟨[(13, .map (some m)), (19, x.rv), (158, .ptr (some (ib, 0)))], []⟩)
    (fun x H => x.seen.Nodup ∧ (∀ i ∈ x.seen, i < BS.length) ∧ Hs H (Lst x.rv 1 (x.seen.map fun i => (roots BS).getD i 0).length (zV (x.seen.map fun i => (roots BS).getD i 0)) :: Ob ib (.iter m BS.length x.seen) :: Ob m (.map (esB BS)) :: R))
    (fun x H1 K ⟨hnd, hlt, h1⟩ hn hx hrr => ?_) ⟨[], .sl none 0 0 0⟩ H ⟨by simp, by simp, hs⟩
  obtain ⟨seen, rv⟩ := x
  dsimp only at hnd hlt h1 hn
  have g1 : H1.get ib = .iter m BS.length seen := h1.p1.ob
  have g2 : H1.get m = .map (esB BS) := h1.p2.ob
  simp -implicitDefEqProofs -dsimp (disch := omega) only [go_sem, dec_t, dec_f, comps_Of_l2, g1, g2]
  refine nextL_intro el (fun hall => ?_) (fun i e he hi => ?_)
  · simp -implicitDefEqProofs -dsimp (disch := omega) only [go_sem, dec_t, dec_f, ]
    rw [hx]
    exact hK rv _ H1 _ (roots_perm hnd (by rw [rl]; exact hlt) (by rw [rl, ← el]; exact hall)) h1.p1.tail
  · have hil : i < BS.length := by rw [← el]; exact (List.getElem?_eq_some_iff.1 he).1
    have hsl : (seen ++ [i]).Nodup := List.nodup_append.2 ⟨hnd, by simp, fun a ha b hb => by simp at hb; subst hb; intro e; subst e; exact hi ha⟩
    have hle : (seen ++ [i]).length ≤ BS.length := by
      refine nodup_le _ _ hsl fun x hx => ?_
      rcases List.mem_append.1 hx with h | h
      · exact hlt x h
      · simp at h; omega
    have hle2 : seen.length + 1 ≤ BS.length := by simpa using hle
    have e1 : e.1 = (roots BS).getD i 0 := by
      have : (esB BS)[i]?.map Prod.fst = (roots BS)[i]? := by simp [esB, roots, Function.comp_def]
      rw [he] at this
      rw [List.getD_eq_getElem?_getD, ← this]; rfl
    have h2 := h1.p1.obput (o' := .iter m BS.length (seen ++ [i]))
    generalize H1.put ib (.iter m BS.length (seen ++ [i])) = H2 at h2 ⊢
    have g3 : H2.get ib = .iter m BS.length (seen ++ [i]) := h2.ob
    have g4 : H2.get m = .map (esB BS) := h2.p2.ob
    simp -implicitDefEqProofs -dsimp (disch := omega) only [go_sem, dec_t, dec_f, g3, g4]
    refine entryL_intro (i := i) (e := e) (by simp) he el ?_
    obtain ⟨rv', H3, ha, hoo, hsm, hff⟩ := app_one h2.p1.own (M := [.int .i64 e.1]) (m := 1) (eb := 8) rfl rfl (by omega) (by simp; omega)
    have h3 := h2.p1.lst' hsm hoo hff
    simp -implicitDefEqProofs -dsimp (disch := omega) only [go_sem, dec_t, dec_f, ha]
    refine hn ⟨seen ++ [i], rv'⟩ H3 (by simp; omega) ⟨hsl, ?_, ?_⟩
    · dsimp only
      intro x hx
      rcases List.mem_append.1 hx with h | h
      · exact hlt x h
      · simp at h; omega
    · dsimp only
      rw [List.map_append, List.map_cons, List.map_nil, ← e1, List.length_append, show zV (List.map (fun i => (roots BS).getD i 0) seen ++ [e.1]) = zV (List.map (fun i => (roots BS).getD i 0) seen) ++ [.int .i64 e.1] from by simp [zV]]
      exact h3
end
end Go.Ab
/- Boxes become pieces: the last loops of comps.Of. Conditions: none. -/
namespace Go.Ab
/-- A box's pixels. -/
def boxPx (b : BoxP) : Nat → Nat → Bool := b.l.foldl (fun p q => fillP p (q.1.1 - b.x) ((q.2 : Int) - (b.y : Nat)) (q.1.2 - q.1.1) 1 true) fun _ _ => false
def plOk (w h : Nat) (q : Plc) : Prop := 0 ≤ q.1.1 ∧ q.1.1 < q.1.2 ∧ q.1.2 ≤ w ∧ q.2 < h
structure BxOk (w h : Nat) (b : BoxP) : Prop where
  x0 : 0 ≤ b.x
  xr : b.x < b.r
  rw : b.r ≤ w
  yb : b.y < b.b
  bh : b.b ≤ h
  l : ∀ q ∈ b.l, plOk w h q
section
variable {P : Prog} {H : Heap} {R : List As}
set_option maxHeartbeats 1000000 in
theorem of_fill (hb : HasBm P) {Q : Post} {t : Tag Q} {s : Tag comps_Of_l1} {bx : BoxR} {w h mm n i : Nat} {mv ov rv : V} {wd ht : Nat} {T : List As} (ok : BxOk w h bx.p) (hw : w ≤ 1048576) (hh : h ≤ 1048576) (hll : bx.p.l.length ≤ 1048576)
    (mc : Cel bx.blk bx.cs ∈ T) (ml : Lst bx.lv 3 bx.p.l.length (pcells bx.p.l) ∈ T) (hs : Hs H (MapA mm wd ht (fun _ _ => false) :: T))
    (hK : ∀ H' ex, Hs H' (MapA mm wd ht (boxPx bx.p) :: T) → Q (.exit 10) ⟨(13, mv) :: (21, ov) :: (24, .ptr (some (bx.blk, 0))) :: (25, .ptr (some (mm, 0))) :: (169, rv) :: (170, .int .i64 (n : Nat)) :: (171, .int .i64 (i : Nat)) :: ex, []⟩ H') :
    loopL (Call P) [13, 21, 24, 25, 169, 170, 171, 206, 207, 208] comps_Of_l1 Q t s
      ⟨[(13, mv), (21, ov), (24, .ptr (some (bx.blk, 0))), (25, .ptr (some (mm, 0))), (169, rv), (170, .int .i64 (n : Nat)), (171, .int .i64 (i : Nat)), (206, bx.lv), (207, .int .i64 (bx.p.l.length : Nat)), (208, .int .i64 ((0 : Nat) : Int))], []⟩ H := by
  obtain ⟨⟨rt, x, y, r, b, l⟩, blk, lv⟩ := bx
  obtain ⟨o1, o2, o3, o4, o5, o6⟩ := ok
  dsimp only [BoxR.cs] at *
  refine loop_cnt l.length (fun j => ⟨[(13, mv), (21, ov), (24, .ptr (some (blk, 0))), (25, .ptr (some (mm, 0))), (169, rv), (170, .int .i64 (n : Nat)), (171, .int .i64 (i : Nat)), (206, lv), (207, .int .i64 (l.length : Nat)), (208, .int .i64 (j : Nat))], []⟩)
    (fun j H => Hs H (MapA mm wd ht ((l.take j).foldl (fun p (q : Plc) => fillP p (q.1.1 - x) ((q.2 : Int) - (y : Nat)) (q.1.2 - q.1.1) 1 true) fun _ _ => false) :: T)) (fun j H1 K hj h1 hn hx hrr => ?_) 0 H (Nat.zero_le _) hs
  by_cases hlt : j < l.length
  · obtain ⟨lb, lo, lc, rfl, r1⟩ := pc_rd (h1.ownm (List.mem_cons_of_mem _ ml)).arr hlt
    have hq := o6 _ (List.getElem_mem hlt)
    have etk : l.take (j + 1) = l.take j ++ [l[j]] := (List.take_append_getElem hlt).symm
    generalize l[j] = q at r1 hq etk
    obtain ⟨⟨q1, q2⟩, qy⟩ := q
    obtain ⟨p1, p2, p3, p4⟩ := hq
    dsimp only at p1 p2 p3 p4 r1
    have h2 := h1.alloc (l := [.int .i64 q1, .int .i64 q2, .int .i64 (qy : Nat)])
    have c2 := rd_s (h1.celm (b := blk) (List.mem_cons_of_mem _ mc))
    have hbl := (h1.ofmem (List.mem_cons_of_mem _ mc)).celt
    have hne : ¬ blk = H1.next := by omega
    simp -implicitDefEqProofs -dsimp (disch := omega) only [go_sem, dec_t, dec_f, comps_Of_l1, Int.toNat_natCast, r1, c2, hne, if_false, w64]
    refine fill_ct hb h2.p1 (by unfold i64r; omega) (by unfold i64r; omega) (by unfold i64r; omega) (by unfold i64r; omega) fun H3 h3 => ?_
    have ef : fillR (q2 - q1) 1 1 = 0 := by unfold fillR; rw [if_neg (by omega), if_pos (by omega)]
    rw [ef, if_pos rfl] at h3
    simp -implicitDefEqProofs -dsimp (disch := omega) only [go_sem, dec_t, dec_f, w64, cadd1]
    refine hn hlt H3 ?_
    rw [etk, List.foldl_append]
    exact h3.p1.tail
  · obtain rfl : j = l.length := by omega
    simp -implicitDefEqProofs -dsimp (disch := omega) only [go_sem, dec_t, dec_f, comps_Of_l1]
    rw [hx]
    refine hK H1 _ ?_
    rw [List.take_length] at h1
    exact h1
end
end Go.Ab
/- The last loop of comps.Of: each box becomes a piece. Conditions: none. -/
namespace Go.Ab
/-- A piece. -/
structure PcP where
  x : Int
  y : Int
  w : Nat
  h : Nat
  p : Nat → Nat → Bool
structure PcR where
  p : PcP
  v : V
def PcR.cs (r : PcR) : List V := [.int .i64 r.p.x, .int .i64 r.p.y, .int .i64 r.p.w, .int .i64 r.p.h, r.v]
def PcR.as (r : PcR) : As := BmA r.v r.p.w r.p.h r.p.p
def pcCells (l : List PcR) : List V := l.flatMap PcR.cs
theorem pcCells_snoc (l : List PcR) (r : PcR) : pcCells (l ++ [r]) = pcCells l ++ r.cs := by simp [pcCells]
/-- Pieces of one's own. -/
def StP (ov : V) (PR : List PcR) (T : List As) : List As := Lst ov 5 PR.length (pcCells PR) :: (PR.map PcR.as ++ T)
def BoxP.pc (b : BoxP) : PcP := ⟨b.x, (b.y : Nat), (b.r - b.x).toNat, b.b - b.y, boxPx b⟩
theorem mget_rise : ∀ {BS : List BoxR}, (roots BS).Pairwise (· < ·) → ∀ {i : Nat} (hi : i < BS.length), mget (esB BS) ((BS[i].p.root : Nat) : Int) = some (.ptr (some (BS[i].blk, 0)))
  | b :: BS, h, 0, _ => by simp [esB, mget]
  | b :: BS, h, i + 1, hi => by
    obtain ⟨h1, h2⟩ := List.pairwise_cons.1 h
    have hi' : i < BS.length := by simpa using hi
    have := h1 ((BS[i].p.root : Nat) : Int) (by
      simp only [List.mem_map]
      exact ⟨BS[i], List.getElem_mem hi', rfl⟩)
    show mget (_ :: esB BS) _ = _
    dsimp only at this
    rw [mget, if_neg (by simp only [List.getElem_cons_succ]; omega)]
    exact mget_rise h2 hi'
section
variable {P : Prog} {H : Heap} {R : List As}
structure OuS where
  i : Nat
  ov : V
  PR : List PcR
set_option maxHeartbeats 1000000 in
theorem of_out (hb : HasBm P) {Q : Post} {t : Tag Q} {s : Tag comps_Of_l0} {BS : List BoxR} {w h m : Nat} {rv : V} (hr : (roots BS).Pairwise (· < ·)) (ok : ∀ b ∈ BS, BxOk w h b.p) (hwh : w * h ≤ 1048576) (hw1 : 1 ≤ w) (hh1 : 1 ≤ h)
    (hl : ∀ b ∈ BS, b.p.l.length ≤ 1048576) (hn0 : BS.length ≤ 1048576)
    (hs : Hs H (Lst rv 1 BS.length (zV (roots BS)) :: Ob m (.map (esB BS)) :: (BS.flatMap BoxR.as ++ R)))
    (hK : ∀ ov PR H' ex, PR.map PcR.p = BS.map (fun b => b.p.pc) → Hs H' (StP ov PR R) → Q (.exit 8) ⟨(13, .map (some m)) :: (21, ov) :: ex, []⟩ H') :
    loopL (Call P) [13, 21, 169, 170, 171] comps_Of_l0 Q t s ⟨[(13, .map (some m)), (21, .sl none 0 0 0), (169, rv), (170, .int .i64 (BS.length : Nat)), (171, .int .i64 ((0 : Nat) : Int))], []⟩ H := by
  have hw : w ≤ 1048576 := Nat.le_trans (Nat.le_mul_of_pos_right _ hh1) hwh
  have hh : h ≤ 1048576 := Nat.le_trans (Nat.le_mul_of_pos_left _ hw1) hwh
  have h0 : Hs H (StP (.sl none 0 0 0) [] (Lst rv 1 BS.length (zV (roots BS)) :: Ob m (.map (esB BS)) :: (BS.flatMap BoxR.as ++ R))) := hs.lst (Same.refl _ _) (own_nil _ 5) fun _ h => h.elim
  refine loop_dec (σ := OuS) (fun x => BS.length - x.i) (fun x => ⟨[(13, .map (some m)), (21, x.ov), (169, rv), (170, .int .i64 (BS.length : Nat)), (171, .int .i64 (x.i : Nat))], []⟩)
    (fun x H => x.i ≤ BS.length ∧ x.PR.map PcR.p = (BS.take x.i).map (fun b => b.p.pc) ∧ Hs H (StP x.ov x.PR (Lst rv 1 BS.length (zV (roots BS)) :: Ob m (.map (esB BS)) :: (BS.flatMap BoxR.as ++ R))))
    (fun x H1 K ⟨hi, hpr, h1⟩ hn hx hrr => ?_) ⟨0, .sl none 0 0 0, []⟩ H ⟨Nat.zero_le _, rfl, h0⟩
  obtain ⟨i, ov, PR⟩ := x
  dsimp only at hi hpr h1 hn
  have hPl : PR.length = i := by have := congrArg List.length hpr; simp at this; omega
  by_cases hlt : i < BS.length
  · have hroot : (roots BS)[i]? = some ((BS[i].p.root : Nat) : Int) := by simp [roots, List.getElem?_eq_getElem hlt]
    have hmg := mget_rise hr hlt
    have etk : BS.take (i + 1) = BS.take i ++ [BS[i]] := (List.take_append_getElem hlt).symm
    have hbm := List.getElem_mem hlt
    generalize hbx : BS[i] = bx at hroot hmg etk hbm
    have hok := ok bx hbm
    have hbl := hl bx hbm
    have hok' := hok
    obtain ⟨o1, o2, o3, o4, o5, o6⟩ := hok'
    have mc : Cel bx.blk bx.cs ∈ BS.flatMap BoxR.as ++ R := List.mem_append_left _ (List.mem_flatMap.2 ⟨bx, hbm, by simp [BoxR.as]⟩)
    have ml : Lst bx.lv 3 bx.p.l.length (pcells bx.p.l) ∈ BS.flatMap BoxR.as ++ R := List.mem_append_left _ (List.mem_flatMap.2 ⟨bx, hbm, by simp [BoxR.as]⟩)
    have mc' : Cel bx.blk bx.cs ∈ StP ov PR (Lst rv 1 BS.length (zV (roots BS)) :: Ob m (.map (esB BS)) :: (BS.flatMap BoxR.as ++ R)) := List.mem_cons_of_mem _ (List.mem_append_right _ (List.mem_cons_of_mem _ (List.mem_cons_of_mem _ mc)))
    have ml' : Lst bx.lv 3 bx.p.l.length (pcells bx.p.l) ∈ StP ov PR (Lst rv 1 BS.length (zV (roots BS)) :: Ob m (.map (esB BS)) :: (BS.flatMap BoxR.as ++ R)) := List.mem_cons_of_mem _ (List.mem_append_right _ (List.mem_cons_of_mem _ (List.mem_cons_of_mem _ ml)))
    have ownr := h1.ownm (v := rv) (e := 1) (n := BS.length) (l := zV (roots BS)) (List.mem_cons_of_mem _ (List.mem_append_right _ (List.mem_cons_self ..)))
    obtain ⟨rb, ro, rc, rfl⟩ := ownr.arr.at0 (by omega)
    have r1 := ownr.arr.rd1 hlt
    rw [show (zV (roots BS))[i]? = some (.int .i64 ((bx.p.root : Nat) : Int)) from by simp [zV, hroot]] at r1
    have hm : H1.get m = .map (esB BS) := h1.obm (List.mem_cons_of_mem _ (List.mem_append_right _ (List.mem_cons_of_mem _ (List.mem_cons_self ..))))
    have c1 := rd_s (h1.celm mc')
    unfold BoxR.cs at c1
    have hsz : sizeOk (bx.p.r - bx.p.x) ((bx.p.b : Int) - (bx.p.y : Nat)) := by
      refine ⟨by omega, by omega, ?_⟩
      have e1 : bx.p.r - bx.p.x ≤ (w : Int) := by omega
      have e2 : (bx.p.b : Int) - (bx.p.y : Nat) ≤ (h : Int) := by omega
      calc (bx.p.r - bx.p.x) * ((bx.p.b : Int) - (bx.p.y : Nat)) ≤ (w : Int) * ((bx.p.b : Int) - (bx.p.y : Nat)) := Int.mul_le_mul_of_nonneg_right e1 (by omega)
        _ ≤ (w : Int) * (h : Int) := Int.mul_le_mul_of_nonneg_left e2 (by omega)
        _ ≤ 1048576 := by rw [← Int.natCast_mul]; omega
    simp -implicitDefEqProofs -dsimp (disch := omega) only [go_sem, dec_t, dec_f, comps_Of_l0, Int.toNat_natCast, Nat.mul_one, r1, hm, hmg, c1, w64]
    refine new_ct hb h1 (by omega) (by omega) (fun k => absurd hsz k) fun _ mm H2 h2 _ => ?_
    have eh : ((bx.p.b : Int) - (bx.p.y : Nat)).toNat = bx.p.b - bx.p.y := by omega
    rw [eh] at h2
    have ml2 := (h2.ownm (List.mem_cons_of_mem _ ml')).arr
    have c2 := rd_s (h2.celm (List.mem_cons_of_mem _ mc'))
    unfold BoxR.cs at c2
    obtain ⟨la, lc, le, hlv⟩ := ml2.shape
    rw [hlv] at c2
    simp -implicitDefEqProofs -dsimp (disch := omega) only [go_sem, dec_t, dec_f, c2]
    rw [← hlv]
    refine of_fill hb hok hw hh hbl mc' ml' h2 fun H3 ex h3 => ?_
    have c3 := rd_s (h3.celm (List.mem_cons_of_mem _ mc'))
    unfold BoxR.cs at c3
    simp -implicitDefEqProofs -dsimp (disch := omega) only [go_sem, dec_t, dec_f, c3]
    refine plain_ct hb h3 fun pv H4 h4 _ => ?_
    have c4 := rd_s (h4.celm (List.mem_cons_of_mem _ (List.mem_cons_of_mem _ mc')))
    unfold BoxR.cs at c4
    obtain ⟨pa, pc, pe, rfl⟩ := h4.own.arr.shape
    obtain ⟨ov', H5, ha, hoo, hsm, hff⟩ := app_one h4.p2.own (M := [.int .i64 bx.p.x, .int .i64 (bx.p.y : Nat), .int .i64 ((bx.p.r - bx.p.x).toNat : Nat), .int .i64 ((bx.p.b - bx.p.y : Nat) : Int), .sl pa (Wds (bx.p.r - bx.p.x).toNat (bx.p.b - bx.p.y) (boxPx bx.p)).length pc pe]) (m := 1) (eb := 56) rfl rfl (by omega) (by omega)
    have h5 := h4.p2.lst' hsm hoo hff
    simp -implicitDefEqProofs -dsimp (disch := omega) only [go_sem, dec_t, dec_f, ]
    refine aft_intro (t := tag _) (by simp [rechecks, recheck, fresh, Fr.get, Fr.put, look, step, opd, c4]) ?_
    simp -implicitDefEqProofs -dsimp (disch := omega) only [go_sem, dec_t, dec_f, ha, w64, cadd1]
    refine hn ⟨i + 1, ov', PR ++ [⟨bx.p.pc, .sl pa (Wds (bx.p.r - bx.p.x).toNat (bx.p.b - bx.p.y) (boxPx bx.p)).length pc pe⟩]⟩ H5 (by dsimp only; omega) ⟨hlt, ?_, ?_⟩
    · dsimp only
      rw [List.map_append, hpr, etk, List.map_append]; rfl
    · dsimp only
      have h6 := bmA_of h5.p1 (mapSz0 h5.p2)
      have h7 := h6.p2.tail
      unfold StP
      rw [pcCells_snoc, List.length_append]
      refine Hs.perm h7.p1 ?_
      classical
      refine List.perm_iff_count.2 fun x => ?_
      simp only [List.map_append, List.map_cons, List.map_nil, List.count_append, List.count_cons, List.count_nil, PcR.as, PcR.cs, BoxP.pc, List.length_cons, List.length_nil]
      ac_rfl
  · obtain rfl : i = BS.length := by omega
    simp -implicitDefEqProofs -dsimp (disch := omega) only [go_sem, dec_t, dec_f, comps_Of_l0]
    rw [hx]
    rw [List.take_length] at hpr
    refine hK ov PR H1 _ hpr ?_
    have := Hs.perm (L' := (Lst rv 1 BS.length (zV (roots BS)) :: Ob m (.map (esB BS)) :: BS.flatMap BoxR.as) ++ StP ov PR R) h1 (by
      classical
      refine List.perm_iff_count.2 fun x => ?_
      simp only [StP, List.count_append, List.count_cons]
      ac_rfl)
    exact this.cutl
end
end Go.Ab
/- Plain facts of runs that are placed, and of their boxes. Conditions: none. -/
namespace Go.Ab
theorem rl_in0 {f : Nat → Bool} : ∀ x, ∀ r ∈ rl f x, 0 ≤ r.1 ∧ r.1 < r.2 ∧ r.2 ≤ (x : Int)
  | 0, r, h => by simp [rl] at h
  | x + 1, r, h => by
    have ih := rl_in0 (f := f) x
    rw [rl] at h
    split at h
    · split at h
      · rcases List.mem_append.1 h with h | h
        · have := ih r h; omega
        · simp at h; subst h; dsimp only; omega
      · rcases List.mem_append.1 h with h | h
        · have := ih r (List.dropLast_subset _ h); omega
        · simp only [List.mem_singleton] at h
          subst h
          dsimp only
          cases hl : (rl f x).getLast? with
          | none => rw [List.getLastD_eq_getLast?, hl]; simp
          | some z =>
            have := ih z (List.mem_of_getLast? hl)
            rw [List.getLastD_eq_getLast?, hl]
            simp only [Option.getD_some]; omega
    · have := ih r h; omega
variable {rows : List (List (Int × Int))}
theorem pl_row : ∀ (y : Nat) (q : Plc), q ∈ allPl rows y → q.2 < y ∧ q.1 ∈ rows.getD q.2 []
  | 0, q, h => by simp [allPl] at h
  | y + 1, q, h => by
    rw [allPl] at h
    rcases List.mem_append.1 h with h | h
    · have := pl_row y q h; exact ⟨by omega, this.2⟩
    · simp only [plRow, List.mem_map] at h
      obtain ⟨r, h1, rfl⟩ := h
      exact ⟨by dsimp only; omega, h1⟩
theorem pl_mono : ∀ (y : Nat), (allPl rows y).Pairwise fun a b => a.2 ≤ b.2
  | 0 => List.Pairwise.nil
  | y + 1 => by
    rw [allPl, List.pairwise_append]
    refine ⟨pl_mono y, ?_, fun a ha b hb => ?_⟩
    · rw [plRow, List.pairwise_map]
      exact List.Pairwise.imp (fun _ => Nat.le_refl _) (List.pairwise_of_forall (R := fun _ _ => True) fun _ _ => trivial)
    · have h1 := (pl_row y a ha).1
      simp only [plRow, List.mem_map] at hb
      obtain ⟨r, _, rfl⟩ := hb
      dsimp only; omega
theorem rowsOf_getD {p : Nat → Nat → Bool} {w h y : Nat} (hy : y < h) : (rowsOf p w h).getD y [] = rl (fun x => p x y) w := by
  rw [List.getD_eq_getElem?_getD]; simp [rowsOf, hy]
theorem pl_len {p : Nat → Nat → Bool} {w h : Nat} : ∀ y, y ≤ h → (allPl (rowsOf p w h) y).length ≤ y * w
  | 0, _ => by simp [allPl]
  | y + 1, hy => by
    rw [allPl_succ, rowsOf_getD (by omega), Nat.add_mul, Nat.one_mul]
    have := pl_len (p := p) (w := w) (h := h) y (by omega)
    have := rl_len (fun x => p x y) w
    omega
theorem pl_ok {p : Nat → Nat → Bool} {w h : Nat} : ∀ q ∈ allPl (rowsOf p w h) h, plOk w h q := fun q hq => by
  obtain ⟨h1, h2⟩ := pl_row h q hq
  rw [rowsOf_getD h1] at h2
  obtain ⟨k1, k2, k3⟩ := rl_in0 w q.1 h2
  exact ⟨k1, k2, k3, h1⟩
/-! ### Boxes -/
theorem addB_roots : ∀ (bs : List BoxP) (root : Nat) (q : Plc), (addB bs root q).map BoxP.root = if root ∈ bs.map BoxP.root then bs.map BoxP.root else bs.map BoxP.root ++ [root]
  | [], root, q => rfl
  | b :: bs, root, q => by
    by_cases h : b.root = root
    · rw [addB, if_pos h, if_pos (by simp [h])]; simp [BoxP.add]
    · have ih := addB_roots bs root q
      rw [addB, if_neg h, List.map_cons, ih, List.map_cons]
      by_cases k : root ∈ bs.map BoxP.root
      · rw [if_pos k, if_pos (List.mem_cons_of_mem _ k)]
      · rw [if_neg k, if_neg (by
          intro m
          rcases List.mem_cons.1 m with m | m
          · exact h m.symm
          · exact k m)]; rfl
theorem addB_all {M : BoxP → Prop} {root : Nat} {q : Plc} : ∀ {bs : List BoxP}, (∀ b ∈ bs, M (b.add q) ∧ M b) → M (BoxP.add ⟨root, q.1.1, q.2, q.1.2, q.2 + 1, []⟩ q) → ∀ b ∈ addB bs root q, M b
  | [], _, h0, b, hb => by simp [addB] at hb; subst hb; exact h0
  | c :: bs, h, h0, b, hb => by
    unfold addB at hb
    split at hb
    · rcases List.mem_cons.1 hb with rfl | hb
      · exact (h c (List.mem_cons_self ..)).1
      · exact (h b (List.mem_cons_of_mem _ hb)).2
    · rcases List.mem_cons.1 hb with rfl | hb
      · exact (h b (List.mem_cons_self ..)).2
      · exact addB_all (fun x hx => h x (List.mem_cons_of_mem _ hx)) h0 b hb
theorem boxes_ok {ρ : Nat → Nat} {PL : List Plc} {w h : Nat} (ok : ∀ q ∈ PL, plOk w h q) (mono : PL.Pairwise fun a b => a.2 ≤ b.2) : ∀ i, ∀ b ∈ boxes ρ PL i, BxOk w h b ∧ ∀ (j : Nat) (q : Plc), i ≤ j → PL[j]? = some q → b.y ≤ q.2
  | 0, b, hb => by simp [boxes] at hb
  | i + 1, b, hb => by
    unfold boxes at hb
    have ih := boxes_ok (ρ := ρ) ok mono i
    split at hb
    · rename_i q hq
      have hqm := List.mem_of_getElem? hq
      have hqo := ok q hqm
      have later : ∀ (j : Nat) (z : Plc), i + 1 ≤ j → PL[j]? = some z → q.2 ≤ z.2 := fun j z hj hz => by
        obtain ⟨h1, e1⟩ := List.getElem?_eq_some_iff.1 hq
        obtain ⟨h2, e2⟩ := List.getElem?_eq_some_iff.1 hz
        have := List.pairwise_iff_getElem.1 mono i j h1 h2 (by omega)
        rw [e1, e2] at this; exact this
      obtain ⟨p1, p2, p3, p4⟩ := hqo
      refine addB_all (M := fun b => BxOk w h b ∧ ∀ (j : Nat) (q : Plc), i + 1 ≤ j → PL[j]? = some q → b.y ≤ q.2) (fun c hc => ?_) ?_ b hb
      · obtain ⟨⟨o1, o2, o3, o4, o5, o6⟩, k⟩ := ih c hc
        have hy := k i q (Nat.le_refl _) hq
        refine ⟨⟨⟨?_, ?_, ?_, ?_, ?_, ?_⟩, fun j z hj hz => k j z (by omega) hz⟩, ⟨o1, o2, o3, o4, o5, o6⟩, fun j z hj hz => k j z (by omega) hz⟩
        · show 0 ≤ if q.1.1 < c.x then q.1.1 else c.x
          split <;> omega
        · show (if q.1.1 < c.x then q.1.1 else c.x) < if q.1.2 > c.r then q.1.2 else c.r
          split <;> split <;> omega
        · show (if q.1.2 > c.r then q.1.2 else c.r) ≤ (w : Int)
          split <;> omega
        · show c.y < q.2 + 1
          omega
        · show q.2 + 1 ≤ h
          omega
        · intro z hz
          rcases List.mem_append.1 hz with hz | hz
          · exact o6 z hz
          · simp at hz; subst hz; exact ⟨p1, p2, p3, p4⟩
      · refine ⟨⟨?_, ?_, ?_, ?_, ?_, ?_⟩, fun j z hj hz => later j z hj hz⟩
        · show 0 ≤ if q.1.1 < q.1.1 then q.1.1 else q.1.1
          split <;> omega
        · show (if q.1.1 < q.1.1 then q.1.1 else q.1.1) < if q.1.2 > q.1.2 then q.1.2 else q.1.2
          split <;> split <;> omega
        · show (if q.1.2 > q.1.2 then q.1.2 else q.1.2) ≤ (w : Int)
          split <;> omega
        · show q.2 < q.2 + 1
          omega
        · show q.2 + 1 ≤ h
          omega
        · intro z hz
          simp [BoxP.add] at hz; subst hz; exact ⟨p1, p2, p3, p4⟩
    · exact ⟨(ih b hb).1, fun j q hj hq => (ih b hb).2 j q (by omega) hq⟩
/-- Roots rise. -/
theorem boxes_roots {F : List Nat} {ρ : Nat → Nat} {PL : List Plc} (hF : Fst F ρ) : ∀ i, i ≤ PL.length → ((boxes ρ PL i).map BoxP.root).Pairwise (· < ·) ∧ (∀ r ∈ (boxes ρ PL i).map BoxP.root, r < i) ∧ ∀ j, j < i → ρ j ∈ (boxes ρ PL i).map BoxP.root
  | 0, _ => ⟨List.Pairwise.nil, by simp [boxes], fun j h => by omega⟩
  | i + 1, hi => by
    obtain ⟨h1, h2, h3⟩ := boxes_roots (PL := PL) hF i (by omega)
    have e : boxes ρ PL (i + 1) = addB (boxes ρ PL i) (ρ i) PL[i] := by rw [boxes, List.getElem?_eq_getElem (by omega)]
    rw [e, addB_roots]
    by_cases k : ρ i ∈ (boxes ρ PL i).map BoxP.root
    · rw [if_pos k]
      refine ⟨h1, fun r hr => by have := h2 r hr; omega, fun j hj => ?_⟩
      by_cases ej : j = i
      · subst ej; exact k
      · exact h3 j (by omega)
    · rw [if_neg k]
      have hlo := hF.lo i
      have hri : ρ i = i := by
        rcases Nat.lt_or_ge (ρ i) i with q | q
        · have := h3 (ρ i) q
          rw [hF.idem] at this; exact absurd this k
        · omega
      rw [hri]
      refine ⟨?_, fun r hr => ?_, fun j hj => ?_⟩
      · rw [List.pairwise_append]
        exact ⟨h1, by simp, fun a ha b hb => by simp at hb; subst hb; exact h2 a ha⟩
      · rcases List.mem_append.1 hr with hr | hr
        · have := h2 r hr; omega
        · simp at hr; omega
      · by_cases ej : j = i
        · subst ej; rw [hri]; simp
        · exact List.mem_append_left _ (h3 j (by omega))
theorem boxes_count {F : List Nat} {ρ : Nat → Nat} {PL : List Plc} (hF : Fst F ρ) : (boxes ρ PL PL.length).length ≤ PL.length := by
  obtain ⟨h1, h2, _⟩ := boxes_roots (PL := PL) hF PL.length (Nat.le_refl _)
  have := nodup_le PL.length _ (h1.imp fun h => Nat.ne_of_lt h) h2
  simpa using this
end Go.Ab
/- comps.Of whole. Conditions: none. -/
namespace Go.Ab
/-- A bitmap's pieces, as the program finds them. -/
def pcsOf (p : Nat → Nat → Bool) (w h : Nat) : List PcP := (boxes (rhoF (rowsOf p w h) h) (allPl (rowsOf p w h) h) (allPl (rowsOf p w h) h).length).map BoxP.pc
section
variable {P : Prog} {H : Heap} {R : List As} {Q : Out → Heap → Prop}
set_option maxHeartbeats 1000000 in
theorem compsOf_ct (hb : HasBm P) (hu : HasRu P) (hp : HasCo P) {w h : Int} {v : V} {ws : List Nat} (hs : Hs H R) (hv : ∀ H', Hs H' R → Arr H' v 1 ws.length (u64s ws)) (hl : ∀ n ∈ ws, n < 18446744073709551616) (hw : i64r w) (hh : i64r h)
    (hQ1 : ¬ mayB w h ws → ∀ H', Hs H' R → Q (.ret (.tup [.sl none 0 0 0, .int .i64 90])) H')
    (hQ2 : mayB w h ws → ∀ ov PR H', PR.map PcR.p = pcsOf (pixOf w.toNat ws) w.toNat h.toNat → Hs H' (StP ov PR R) → Q (.ret (.tup [ov, .int .i64 0])) H') : Call P 181 [.agg [.int .i64 w, .int .i64 h, v]] H Q := by
  refine call_of hp.h_comps_Of rfl ?_
  have h1 := hs.alloc (l := [.int .i64 w, .int .i64 h, v])
  have r1 := rd_m h1.cel 3 0
  simp -implicitDefEqProofs -dsimp (disch := omega) only [go_sem, dec_t, dec_f, ]
  generalize H.new _ = H1 at *
  generalize H.next = b at *
  rw [show (piece [V.int .i64 w, .int .i64 h, v] 0 3).map V.agg = some (.agg [.int .i64 w, .int .i64 h, v]) from rfl] at r1
  simp -implicitDefEqProofs -dsimp (disch := omega) only [go_sem, dec_t, dec_f, r1]
  refine runsOf_ct hb hu h1.tail hv hl hw hh (fun k H2 h2 => ?_) fun k ov RL H2 hrl h2 => ?_
  · simp -implicitDefEqProofs -dsimp (disch := omega) only [go_sem, dec_t, dec_f, ]
    exact hQ1 k H2 h2
  · have hQ2 := hQ2 k
    obtain ⟨⟨m1, m2, m3⟩, m4, m5⟩ := k
    have hle := sizeOk_le ⟨m1, m2, m3⟩
    obtain ⟨wn, rfl⟩ : ∃ k : Nat, w = k := ⟨w.toNat, by omega⟩
    obtain ⟨hn, rfl⟩ : ∃ k : Nat, h = k := ⟨h.toNat, by omega⟩
    rw [Int.toNat_natCast, Int.toNat_natCast] at hrl hQ2
    have m3 : wn * hn ≤ 1048576 := by rw [← Int.natCast_mul] at m3; omega
    obtain ⟨rows, hrows⟩ : ∃ rows, rowsOf (pixOf wn ws) wn hn = rows := ⟨_, rfl⟩
    have hlen : rows.length = hn := by rw [← hrows, rowsOf_len]
    have hpl : (allPl rows hn).length ≤ 1048576 := by
      have := pl_len (p := pixOf wn ws) (w := wn) (h := hn) hn (Nat.le_refl _)
      rw [hrows, Nat.mul_comm] at this; omega
    have hok : ∀ q ∈ allPl rows hn, plOk wn hn q := by
      have := pl_ok (p := pixOf wn ws) (w := wn) (h := hn)
      rwa [hrows] at this
    have sr := rrd_st (ov := ov) (RL := RL) (T := R)
    rw [hrl, hrows] at sr
    have hRL : RL.length = hn := by have := congrArg List.length hrl; rw [hrows, hlen] at this; simpa using this
    obtain ⟨oa, oc, oe, rfl⟩ := (h2.own).arr.shape
    rw [hRL, ← hlen] at sr h2 ⊢
    simp -implicitDefEqProofs -dsimp (disch := omega) only [go_sem, dec_t, dec_f, ]
    refine of_rows hu hp sr (by rw [hlen]; exact hpl) (by omega) h2 fun fv av F H3 ex hF hFl h3 => ?_
    rw [hlen] at hF hFl h3
    unfold pcsOf at hQ2
    rw [hrows] at hQ2
    obtain ⟨fa, fc, fe, rfl⟩ := h3.own.arr.shape
    obtain ⟨ra, rc, re, rfl⟩ := h3.p1.own.arr.shape
    simp -implicitDefEqProofs -dsimp (disch := omega) only [go_sem, dec_t, dec_f, ]
    have hro := boxes_roots (PL := allPl rows hn) hF (allPl rows hn).length (Nat.le_refl _)
    have hbo := boxes_ok (ρ := rhoF rows hn) hok (by have := pl_mono (rows := rows) hn; exact this) (allPl rows hn).length
    have hbc := boxes_count (PL := allPl rows hn) hF
    have hbl := boxes_len (rhoF rows hn) (allPl rows hn) (allPl rows hn).length
    have hy : ∀ q ∈ allPl rows hn, q.2 < 1048576 := fun q hq => by have := (hok q hq).2.2.2; omega
    generalize allPl rows hn = PL at *
    have h4 := Hs.perm (L' := Lst (.sl fa F.length fc fe) 1 F.length (iV F) :: Lst (.sl ra PL.length rc re) 3 PL.length (pcells PL) :: Ob H3.next (.map []) :: StR (.sl oa hn oc oe) RL R) (h3.obnew (o := .map [])) (by
      classical
      refine List.perm_iff_count.2 fun x => ?_
      simp only [List.count_cons]
      ac_rfl)
    refine of_boxes hp hF hFl hpl hy h4 fun F' BS H4 ex hBS h5 => ?_
    have el : (esB BS).length = BS.length := by simp [esB]
    have hm : H4.get H3.next = .map (esB BS) := h5.obm (by simp)
    have hBl : BS.length ≤ 1048576 := by
      have := congrArg List.length hBS
      rw [List.length_map] at this; omega
    have hrs : (roots BS).Pairwise (· < ·) := by
      have : roots BS = (BS.map BoxR.p).map fun b => ((b.root : Nat) : Int) := by simp [roots]
      rw [this, hBS, List.pairwise_map]
      have := hro.1
      rw [List.pairwise_map] at this
      exact this.imp fun h => by omega
    simp -implicitDefEqProofs -dsimp (disch := omega) only [go_sem, dec_t, dec_f, hm, el]
    have h6 : Hs _ (Lst (.sl none 0 0 0) 1 0 (zV []) :: _) := (h5.obnew (o := .iter H3.next BS.length [])).lst (Same.refl _ _) (own_nil _ 1) fun _ h => h.elim
    have h7 := Hs.perm (L' := Lst (.sl none 0 0 0) 1 0 (zV []) :: Ob H4.next (.iter H3.next BS.length []) :: Ob H3.next (.map (esB BS)) :: (BS.flatMap BoxR.as ++ (Lst (.sl fa F.length fc fe) 1 F.length (iV F') :: Lst (.sl ra PL.length rc re) 3 PL.length (pcells PL) :: StR (.sl oa hn oc oe) RL R))) h6 (by
      classical
      refine List.perm_iff_count.2 fun x => ?_
      simp only [List.count_cons, List.count_append]
      ac_rfl)
    refine of_range hBl h7 fun rv zs H5 ex hz h8 => ?_
    have ezs : srtd zs = roots BS := srtd_of hz hrs
    have ezl : zs.length = BS.length := by have := hz.length_eq; simpa [roots] using this
    obtain ⟨va, vc, ve, rfl⟩ := h8.own.arr.shape
    simp -implicitDefEqProofs -dsimp (disch := omega) only [go_sem, dec_t, dec_f, ]
    refine sort_ct hp h8 (by omega) fun H6 h9 => ?_
    rw [ezs, ezl] at h9
    rw [ezl]
    simp -implicitDefEqProofs -dsimp (disch := omega) only [go_sem, dec_t, dec_f, ]
    refine of_out hb hrs (w := wn) (h := hn) (fun b hb => (hbo b.p (by rw [← hBS]; exact List.mem_map_of_mem hb)).1) m3 (by omega) (by omega) (fun b hb => by
      have := hbl b.p (by rw [← hBS]; exact List.mem_map_of_mem hb)
      omega) hBl h9 fun ov PR H7 ex hPR h10 => ?_
    simp -implicitDefEqProofs -dsimp (disch := omega) only [go_sem, dec_t, dec_f, ]
    refine hQ2 ov PR H7 ?_ ?_
    · rw [hPR, ← hBS, List.map_map]; rfl
    · have := Hs.perm (L' := (Lst (.sl fa F.length fc fe) 1 F.length (iV F') :: Lst (.sl ra PL.length rc re) 3 PL.length (pcells PL) :: StR (.sl oa hn oc oe) RL []) ++ StP ov PR R) h10 (by
        classical
        refine List.perm_iff_count.2 fun x => ?_
        simp only [StP, StR, List.count_cons, List.count_append, List.append_nil]
        ac_rfl)
      exact this.cutl
end
end Go.Ab
/- comps.Back. Conditions: none. -/
namespace Go.Ab
/-- A piece that can be read. -/
structure PcO where
  x : Int
  y : Int
  w : Int
  h : Int
  v : V
  ws : List Nat
def PcO.cs (o : PcO) : List V := [.int .i64 o.x, .int .i64 o.y, .int .i64 o.w, .int .i64 o.h, o.v]
def poCells (l : List PcO) : List V := l.flatMap PcO.cs
theorem poCells_at : ∀ {l : List PcO} {i : Nat} (hi : i < l.length), ((poCells l).drop (i * 5)).take 5 = l[i].cs
  | o :: l, 0, _ => by simp [poCells, PcO.cs]
  | o :: l, i + 1, hi => by
    have := poCells_at (l := l) (i := i) (by simpa using hi)
    rw [show (i + 1) * 5 = 5 + i * 5 by omega, ← List.drop_drop]
    simpa [poCells, PcO.cs] using this
/-- Pieces that can be read where R holds. -/
structure PcsRd (R : List As) (pv : V) (L : List PcO) : Prop where
  arr : ∀ H, Hs H R → Arr H pv 5 L.length (poCells L)
  bits : ∀ o ∈ L, ∀ H, Hs H R → Arr H o.v 1 o.ws.length (u64s o.ws)
  lt : ∀ o ∈ L, ∀ n ∈ o.ws, n < 18446744073709551616
  r : ∀ o ∈ L, i64r o.x ∧ i64r o.y ∧ i64r o.w ∧ i64r o.h
theorem PcsRd.mono {R R' : List As} {pv : V} {L : List PcO} (s : PcsRd R pv L) (k : ∀ H, Hs H R' → Hs H R) : PcsRd R' pv L := ⟨fun H h => s.arr H (k H h), fun o ho H h => s.bits o ho H (k H h), s.lt, s.r⟩
theorem po_rd {H : Heap} {v : V} {L : List PcO} (h : Arr H v 5 L.length (poCells L)) {a : Nat} (ha : a < L.length) :
    ∃ b o c, v = .sl (some (b, o)) L.length c 5 ∧ rd H (some 5) b (o + a * 5) = some (.agg L[a].cs) ∧ (∀ k, k < 5 → rd H none b (o + a * 5 + k) = L[a].cs[k]?) ∧ rd H (some 3) b (o + a * 5 + 2) = some (.agg [.int .i64 L[a].w, .int .i64 L[a].h, L[a].v]) := by
  obtain ⟨b, o, c, rfl, _, h1, h2⟩ := h.at ha
  have e := poCells_at ha
  refine ⟨b, o, c, rfl, ?_, fun k hk => ?_, ?_⟩
  · have := h2 0 5 (by omega)
    rw [Nat.add_zero, Nat.add_zero, e] at this; exact this
  · rw [h1 k hk, ← e, List.getElem?_take, if_pos hk, List.getElem?_drop]
  · have := h2 2 3 (by omega)
    rw [this]
    have e2 : ((poCells L).drop (a * 5 + 2)).take 3 = (((poCells L).drop (a * 5)).take 5).drop 2 := by rw [List.drop_take, List.drop_drop]
    rw [e2, e]; rfl
def poOk (o : PcO) : Prop := mayB o.w o.h o.ws
/-- Pieces, laid. -/
def bkPx (L : List PcO) : Nat → Nat → Bool := L.foldl (fun p o => blitP p (pixOf o.w.toNat o.ws) o.w.toNat o.h.toNat 0 0 o.w o.h o.x o.y 0) fun _ _ => false
theorem bkPx_snoc (L : List PcO) (o : PcO) : bkPx (L ++ [o]) = blitP (bkPx L) (pixOf o.w.toNat o.ws) o.w.toNat o.h.toNat 0 0 o.w o.h o.x o.y 0 := by simp [bkPx]
section
variable {P : Prog} {H : Heap} {R : List As} {Q : Out → Heap → Prop}
set_option maxHeartbeats 1000000 in
theorem compsBack_ct (hb : HasBm P) (hp : HasCo P) {w h : Int} {pv : V} {L : List PcO} (hs : Hs H R) (hr : PcsRd R pv L) (hw : i64r w) (hh : i64r h) (hL : L.length ≤ 281474976710656)
    (hQ1 : ¬ (sizeOk w h ∧ ∀ o ∈ L, poOk o) → ∀ H', Hs H' R → Q (.ret (.tup [.agg [.int .i64 0, .int .i64 0, .sl none 0 0 0], .int .i64 90])) H')
    (hQ2 : sizeOk w h → (∀ o ∈ L, poOk o) → ∀ v' H', Hs H' (BmA v' w.toNat h.toNat (bkPx L) :: R) → Q (.ret (.tup [.agg [.int .i64 w, .int .i64 h, v'], .int .i64 0])) H') : Call P 184 [pv, .int .i64 w, .int .i64 h] H Q := by
  obtain ⟨pa, pc, pe, rfl⟩ := (hr.arr H hs).shape
  refine call_of hp.h_comps_Back rfl ?_
  have h1 := hs.alloc (l := [.int .i64 0, .int .i64 0, .sl none 0 0 0])
  simp -implicitDefEqProofs -dsimp (disch := omega) only [go_sem, dec_t, dec_f, ]
  generalize H.new _ = H1 at *
  generalize H.next = b at *
  have bad : ∀ {H' : Heap} {T : List As}, Hs H' (Cel b [.int .i64 0, .int .i64 0, .sl none 0 0 0] :: T) → ∃ H'', wr H' b 0 [.int .i64 0, .int .i64 0, .sl none 0 0 0] = some H'' ∧ Hs H'' (Cel b [.int .i64 0, .int .i64 0, .sl none 0 0 0] :: T) := fun {H' T} h => Hs.sto 0 h rfl (o := 0) (vs := [.int .i64 0, .int .i64 0, .sl none 0 0 0]) (by simp) rfl
  refine new_ct hb h1 hw hh (fun k => ?_) fun k m H2 h2 _ => ?_
  · obtain ⟨H3, e3, h3⟩ := bad h1
    have r3 := rd_bm h3 (List.mem_cons_self ..) 3 rfl
    simp -implicitDefEqProofs -dsimp (disch := omega) only [go_sem, dec_t, dec_f, e3, r3]
    exact hQ1 (fun q => k q.1) H3 h3.tail
  have hle := sizeOk_le k
  have hkk := k
  obtain ⟨k1, k2, k3⟩ := k
  obtain ⟨wn, rfl⟩ : ∃ n : Nat, w = n := ⟨w.toNat, by omega⟩
  obtain ⟨hn', rfl⟩ : ∃ n : Nat, h = n := ⟨h.toNat, by omega⟩
  simp only [Int.toNat_natCast] at h2 hQ2
  simp -implicitDefEqProofs -dsimp (disch := omega) only [go_sem, dec_t, dec_f, ]
  refine loop_cnt L.length (fun i => ⟨[(6, .ptr (some (b, 0))), (8, .ptr (some (m, 0))), (23, .sl pa L.length pc pe), (24, .int .i64 (L.length : Nat)), (25, .int .i64 (i : Nat))], []⟩)
    (fun i H => (∀ o ∈ L.take i, poOk o) ∧ Hs H (MapA m wn hn' (bkPx (L.take i)) :: Cel b [.int .i64 0, .int .i64 0, .sl none 0 0 0] :: R)) (fun i H3 K hi ⟨hok, h3⟩ hn hx hrr => ?_) 0 H2 (Nat.zero_le _) ⟨by simp, h2⟩
  by_cases hlt : i < L.length
  · obtain ⟨xb, xo, xc, ev, r1, r2, r3⟩ := po_rd (hr.arr H3 h3.tail.tail) hlt
    cases ev
    have hmem := List.getElem_mem hlt
    have etk : L.take (i + 1) = L.take i ++ [L[i]] := (List.take_append_getElem hlt).symm
    generalize L[i] = o at r1 r2 r3 hmem etk
    obtain ⟨i1, i2, i3, i4⟩ := hr.r o hmem
    have hbt := hr.bits o hmem
    have hblt := hr.lt o hmem
    obtain ⟨va, vc, ve, hov⟩ := (hbt H3 h3.tail.tail).shape
    obtain ⟨ox, oy, ow, oh, ov, ows⟩ := o
    dsimp only at hov i1 i2 i3 i4 hbt hblt
    subst hov
    unfold PcO.cs at r1
    dsimp only at r1
    have h4 := h3.alloc (l := [.int .i64 ox, .int .i64 oy, .int .i64 ow, .int .i64 oh, .sl va ows.length vc ve])
    have c3 := rd_m h4.cel 3 2
    rw [show (piece [V.int .i64 ox, .int .i64 oy, .int .i64 ow, .int .i64 oh, .sl va ows.length vc ve] 2 3).map V.agg = some (.agg [.int .i64 ow, .int .i64 oh, .sl va ows.length vc ve]) from rfl] at c3
    simp -implicitDefEqProofs -dsimp (disch := omega) only [go_sem, dec_t, dec_f, comps_Back_l0, Int.toNat_natCast, r1, c3]
    refine from_ct hb h4 (fun s => hbt _ (h4.keep s).tail.tail.tail) hblt i3 i4 (fun nk H5 h5 _ => ?_) fun nk mb H5 h5 _ => ?_
    · obtain ⟨H6, e6, h6⟩ := bad (h5.p2)
      have r6 := rd_bm h6 (List.mem_cons_self ..) 3 rfl
      simp -implicitDefEqProofs -dsimp (disch := omega) only [go_sem, dec_t, dec_f, e6]
      rw [hrr]
      simp -implicitDefEqProofs -dsimp (disch := omega) only [go_sem, dec_t, dec_f, r6]
      refine hQ1 (fun q => nk (q.2 _ hmem)) H6 ?_
      exact h6.tail.tail.tail
    · have c5 := rd_s h5.p1.cel
      simp -implicitDefEqProofs -dsimp (disch := omega) only [go_sem, dec_t, dec_f, c5]
      refine blit_ct hb (h5.p2) (by unfold i64r; omega) (by unfold i64r; omega) i3 i4 i1 i2 (by unfold i64r; omega) fun H6 h6 => ?_
      simp -implicitDefEqProofs -dsimp (disch := omega) only [go_sem, dec_t, dec_f, w64, cadd1]
      obtain ⟨⟨z1, z2, z3⟩, z4, z5⟩ := nk
      have ebr : blitR ow oh 0 = 0 := by unfold blitR; rw [if_neg (by omega), if_neg (by omega)]
      rw [ebr, if_pos rfl] at h6
      refine hn hlt H6 ⟨fun o ho => ?_, ?_⟩
      · rw [etk] at ho
        rcases List.mem_append.1 ho with ho | ho
        · exact hok o ho
        · simp at ho; subst ho; exact ⟨⟨z1, z2, z3⟩, z4, z5⟩
      · rw [etk, bkPx_snoc]
        exact (h6.p1.tail).p1.tail
  · obtain rfl : i = L.length := by omega
    rw [List.take_length] at h3 hok
    simp -implicitDefEqProofs -dsimp (disch := omega) only [go_sem, dec_t, dec_f, comps_Back_l0]
    rw [hx]
    simp -implicitDefEqProofs -dsimp (disch := omega) only [go_sem, dec_t, dec_f, ]
    refine plain_ct hb h3 fun v' H4 h4 _ => ?_
    obtain ⟨va, vc, ve, rfl⟩ := h4.own.arr.shape
    obtain ⟨H5, e5, h5⟩ := Hs.sto 2 (bmA_of h4 (mapSz0 h3)) rfl (o := 0) (vs := [.int .i64 (wn : Nat), .int .i64 (hn' : Nat), .sl va (Wds wn hn' (bkPx L)).length vc ve]) (by simp) rfl
    have r5 := rd_bm h5 (b := b) (l := [.int .i64 (wn : Nat), .int .i64 (hn' : Nat), .sl va (Wds wn hn' (bkPx L)).length vc ve]) (by simp [over]) 3 rfl
    simp -implicitDefEqProofs -dsimp (disch := omega) only [go_sem, dec_t, dec_f, e5, r5]
    exact hQ2 hkk hok _ H5 h5.tail2.tail2
end
end Go.Ab
/- Lists of pieces: copied, compared. Conditions: none. -/
namespace Go.Ab
/-- What a piece is. -/
def PcO.key (o : PcO) : Int × Int × Int × Int × List Nat := (o.x, o.y, o.w, o.h, o.ws)
def PcO.as (o : PcO) : As := Lst o.v 1 o.ws.length (u64s o.ws)
theorem poCells_snoc (l : List PcO) (o : PcO) : poCells (l ++ [o]) = poCells l ++ o.cs := by simp [poCells]
/-- Pieces of one's own, as words. -/
def StO (ov : V) (L : List PcO) (T : List As) : List As := Lst ov 5 L.length (poCells L) :: (L.map PcO.as ++ T)
section
variable {P : Prog} {H : Heap} {R : List As} {Q : Out → Heap → Prop}
structure CpS where
  i : Nat
  ov : V
  L : List PcO
set_option maxHeartbeats 1000000 in
theorem copyP_ct (hz : HasRz P) (hp : HasRfc P) {pv : V} {L : List PcO} (hs : Hs H R) (hr : PcsRd R pv L) (hL : L.length * 56 ≤ 140737488351232) (hws : ∀ o ∈ L, o.ws.length ≤ 17592186040000)
    (hQ : ∀ ov L' H', L'.map PcO.key = L.map PcO.key → Hs H' (StO ov L' R) → Q (.ret ov) H') : Call P 191 [pv] H Q := by
  obtain ⟨pa, pc, pe, rfl⟩ := (hr.arr H hs).shape
  refine call_of hp.h_burinref0_CopyPieces rfl ?_
  simp -implicitDefEqProofs -dsimp (disch := omega) only [go_sem, dec_t, dec_f, ]
  have h0 : Hs H (StO (.sl none 0 0 0) [] R) := hs.lst (Same.refl _ _) (own_nil _ 5) fun _ h => h.elim
  refine loop_dec (σ := CpS) (fun x => L.length - x.i) (fun x => ⟨[(0, .sl pa L.length pc pe), (3, x.ov), (4, .int .i64 (x.i : Nat))], []⟩)
    (fun x H => x.i ≤ L.length ∧ x.L.map PcO.key = (L.take x.i).map PcO.key ∧ Hs H (StO x.ov x.L R)) (fun x H1 K ⟨hi, hk, h1⟩ hn hx hrr => ?_) ⟨0, .sl none 0 0 0, []⟩ H ⟨Nat.zero_le _, rfl, h0⟩
  obtain ⟨i, ov, M⟩ := x
  dsimp only at hi hk h1 hn
  have hMl : M.length = i := by have := congrArg List.length hk; simp at this; omega
  have drop : ∀ {H'} {A : List As}, Hs H' (A ++ StO ov M R) → Hs H' R := fun {H' A} h => (h.drops.tail).drops
  by_cases hlt : i < L.length
  · have hmem := List.getElem_mem hlt
    have etk : L.take (i + 1) = L.take i ++ [L[i]] := (List.take_append_getElem hlt).symm
    have rr := fun {H'} {A : List As} (h : Hs H' (A ++ StO ov M R)) => po_rd (hr.arr H' (drop h)) hlt
    generalize L[i] = o at rr hmem etk
    have hbt := hr.bits o hmem
    have hwl := hws o hmem
    obtain ⟨xb, xo, xc, ev, r1, r2, r3⟩ := rr (A := []) h1
    cases ev
    obtain ⟨va, vc, ve, hov⟩ := (hbt H1 (drop (A := []) h1)).shape
    obtain ⟨ox, oy, ow, oh, ow', ows⟩ := o
    dsimp only at hov hbt hwl
    subst hov
    have q0 := r2 0 (by omega)
    have q1 := r2 1 (by omega)
    rw [Nat.add_zero] at q0
    simp -implicitDefEqProofs -dsimp (disch := omega) only [go_sem, dec_t, dec_f, burinref0_CopyPieces_l0, Int.toNat_natCast, q0, q1, r3, PcO.cs]
    refine copyR_ct hz h1 (hbt H1 (drop (A := []) h1)) hwl fun v' H2 h2 _ => ?_
    obtain ⟨xb', xo', xc', ev, s1, s2, s3⟩ := rr (A := [_]) h2
    cases ev
    have q0 := s2 0 (by omega)
    have q1 := s2 1 (by omega)
    rw [Nat.add_zero] at q0
    obtain ⟨wa, wc, we, rfl⟩ := h2.own.arr.shape
    obtain ⟨ov', H3, ha, hoo, hsm, hff⟩ := app_oneT h2.p1.own (M := [.int .i64 ox, .int .i64 oy, .int .i64 ow, .int .i64 oh, .sl wa ows.length wc we]) (m := 1) (eb := 56) rfl rfl (by omega) (by omega)
    have h3 := h2.p1.lst' hsm hoo hff
    simp -implicitDefEqProofs -dsimp (disch := omega) only [go_sem, dec_t, dec_f, ]
    refine aft_intro (t := tag _) (by simp [rechecks, recheck, fresh, Fr.get, Fr.put, look, step, opd, q0, q1, PcO.cs, Int.toNat_natCast]) ?_
    simp -implicitDefEqProofs -dsimp (disch := omega) only [go_sem, dec_t, dec_f, ha, w64, cadd1]
    refine hn ⟨i + 1, ov', M ++ [⟨ox, oy, ow, oh, .sl wa ows.length wc we, ows⟩]⟩ H3 (by dsimp only; omega) ⟨hlt, ?_, ?_⟩
    · dsimp only
      rw [List.map_append, hk, etk, List.map_append]; rfl
    · dsimp only
      unfold StO
      rw [poCells_snoc, List.length_append]
      refine Hs.perm h3 ?_
      classical
      refine List.perm_iff_count.2 fun x => ?_
      simp only [List.map_append, List.map_cons, List.map_nil, List.count_append, List.count_cons, List.count_nil, PcO.as, PcO.cs, List.length_cons, List.length_nil]
      ac_rfl
  · obtain rfl : i = L.length := by omega
    rw [List.take_length] at hk
    simp -implicitDefEqProofs -dsimp (disch := omega) only [go_sem, dec_t, dec_f, burinref0_CopyPieces_l0]
    rw [hx]
    simp -implicitDefEqProofs -dsimp (disch := omega) only [go_sem, dec_t, dec_f, ]
    exact hQ ov M H1 hk h1
theorem key_take {L1 L2 : List PcO} {i : Nat} (h1 : i < L1.length) (h2 : i < L2.length) (h : (L1.take i).map PcO.key = (L2.take i).map PcO.key) (e : L1[i].key = L2[i].key) : (L1.take (i + 1)).map PcO.key = (L2.take (i + 1)).map PcO.key := by
  rw [← List.take_append_getElem h1, ← List.take_append_getElem h2, List.map_append, List.map_append, h, List.map_cons, List.map_cons, e]
theorem key_ne {L1 L2 : List PcO} {i : Nat} (h1 : i < L1.length) (h2 : i < L2.length) (e : L1[i].key ≠ L2[i].key) : ¬ L1.map PcO.key = L2.map PcO.key := fun h => e (by
  have := congrArg (fun l => l[i]?) h
  simpa [h1, h2] using this)
set_option maxHeartbeats 1000000 in
theorem eqP_ct (hz : HasRz P) (hp : HasRfc P) {pv1 pv2 : V} {L1 L2 : List PcO} (hs : Hs H R) (hr1 : PcsRd R pv1 L1) (hr2 : PcsRd R pv2 L2) (hL : L1.length ≤ 281474976710656) (hws : ∀ o ∈ L1, o.ws.length ≤ 281474976710656)
    (hQ : ∀ H', Hs H' R → Q (.ret (.bool (decide (L1.map PcO.key = L2.map PcO.key)))) H') : Call P 180 [pv1, pv2] H Q := by
  obtain ⟨pa, pc, pe, rfl⟩ := (hr1.arr H hs).shape
  obtain ⟨qa, qc, qe, rfl⟩ := (hr2.arr H hs).shape
  refine call_of hp.h_burinref0_EqPieces rfl ?_
  by_cases hlen : L1.length = L2.length
  rotate_left
  · simp -implicitDefEqProofs -dsimp (disch := omega) only [go_sem, dec_t, dec_f, ]
    have : ¬ L1.map PcO.key = L2.map PcO.key := fun h => hlen (by simpa using congrArg List.length h)
    rw [decide_eq_false this] at hQ
    exact hQ H hs
  simp -implicitDefEqProofs -dsimp (disch := omega) only [go_sem, dec_t, dec_f, ]
  refine loop_cnt L1.length (fun i => ⟨[(0, .sl pa L1.length pc pe), (1, .sl qa L2.length qc qe), (5, .int .i64 (i : Nat))], []⟩)
    (fun i H => (L1.take i).map PcO.key = (L2.take i).map PcO.key ∧ Hs H R) (fun i H1 K hi ⟨hk, h1⟩ hn hx hrr => ?_) 0 H (Nat.zero_le _) ⟨rfl, hs⟩
  by_cases hlt : i < L1.length
  · have hlt2 : i < L2.length := by omega
    have hm1 := List.getElem_mem hlt
    have hm2 := List.getElem_mem hlt2
    have kt := key_take hlt hlt2 hk
    have kn := key_ne hlt hlt2
    obtain ⟨xb, xo, xc, ev, r1, r2, r3⟩ := po_rd (hr1.arr H1 h1) hlt
    cases ev
    obtain ⟨yb, yo, yc, ev, s1, s2, s3⟩ := po_rd (hr2.arr H1 h1) hlt2
    cases ev
    generalize L1[i] = o1 at *
    generalize L2[i] = o2 at *
    have b1 := hr1.bits o1 hm1 H1 h1
    have b2 := hr2.bits o2 hm2 H1 h1
    have hw1 := hws o1 hm1
    obtain ⟨va, vc, ve, hv1⟩ := b1.shape
    obtain ⟨wa, wc, we, hv2⟩ := b2.shape
    obtain ⟨x1, y1, w1, g1, v1, ws1⟩ := o1
    obtain ⟨x2, y2, w2, g2, v2, ws2⟩ := o2
    dsimp only at b1 b2 hw1 hv1 hv2 r3 s3
    subst hv1 hv2
    have q0 := r2 0 (by omega)
    have q1 := r2 1 (by omega)
    have t0 := s2 0 (by omega)
    have t1 := s2 1 (by omega)
    rw [Nat.add_zero] at q0 t0
    have bad : (⟨x1, y1, w1, g1, V.sl va ws1.length vc ve, ws1⟩ : PcO).key ≠ (⟨x2, y2, w2, g2, V.sl wa ws2.length wc we, ws2⟩ : PcO).key → ∀ H', Hs H' R → Q (.ret (.bool false)) H' := fun h H' h' => by
      have := hQ H' h'
      rwa [decide_eq_false (kn h)] at this
    by_cases ex : x1 = x2
    · subst ex
      by_cases ey : y1 = y2
      · subst ey
        simp -implicitDefEqProofs -dsimp (disch := omega) only [go_sem, dec_t, dec_f, burinref0_EqPieces_l0, Int.toNat_natCast, q0, q1, t0, t1, r3, s3, PcO.cs, d_gre]
        refine eqb_ct hz h1 b1 b2 hw1 fun H2 h2 _ => ?_
        by_cases ew : w1 = w2 ∧ g1 = g2 ∧ ws1 = ws2
        · rw [decide_eq_true ew]
          obtain ⟨rfl, rfl, rfl⟩ := ew
          simp -implicitDefEqProofs -dsimp (disch := omega) only [go_sem, dec_t, dec_f, w64, cadd1]
          exact hn hlt H2 ⟨kt rfl, h2⟩
        · rw [decide_eq_false ew]
          simp -implicitDefEqProofs -dsimp (disch := omega) only [go_sem, dec_t, dec_f, ]
          rw [hrr]
          simp -implicitDefEqProofs -dsimp (disch := omega) only [go_sem, dec_t, dec_f, ]
          refine bad (fun h => ew ?_) H2 h2
          simp only [PcO.key, Prod.mk.injEq] at h
          exact ⟨h.2.2.1, h.2.2.2.1, h.2.2.2.2⟩
      · simp -implicitDefEqProofs -dsimp (disch := omega) only [go_sem, dec_t, dec_f, burinref0_EqPieces_l0, Int.toNat_natCast, q0, q1, t0, t1, r3, s3, PcO.cs, d_gre]
        rw [hrr]
        simp -implicitDefEqProofs -dsimp (disch := omega) only [go_sem, dec_t, dec_f, ]
        refine bad (fun h => ey ?_) H1 h1
        simp only [PcO.key, Prod.mk.injEq] at h
        exact h.2.1
    · simp -implicitDefEqProofs -dsimp (disch := omega) only [go_sem, dec_t, dec_f, burinref0_EqPieces_l0, Int.toNat_natCast, q0, q1, t0, t1, r3, s3, PcO.cs, d_gre]
      rw [hrr]
      simp -implicitDefEqProofs -dsimp (disch := omega) only [go_sem, dec_t, dec_f, ]
      refine bad (fun h => ex ?_) H1 h1
      simp only [PcO.key, Prod.mk.injEq] at h
      exact h.1
  · obtain rfl : i = L1.length := by omega
    rw [List.take_length, hlen, List.take_length] at hk
    rw [decide_eq_true hk] at hQ
    simp -implicitDefEqProofs -dsimp (disch := omega) only [go_sem, dec_t, dec_f, burinref0_EqPieces_l0]
    rw [hx]
    simp -implicitDefEqProofs -dsimp (disch := omega) only [go_sem, dec_t, dec_f, ]
    exact hQ H1 h1
end
end Go.Ab
/- Pieces of one's own, read; wakes. Conditions: none. -/
namespace Go.Ab
theorem arr_cel0 {H : Heap} {R : List As} {b : Nat} {l : List V} {ws : List Nat} (hs : Hs H R) (hm : Cel b l ∈ R) (e : l = u64s ws) : Arr H (.sl (some (b, 0)) ws.length ws.length 1) 1 ws.length (u64s ws) := by
  have h1 := hs.ofmem hm
  subst e
  exact .inr ⟨b, 0, ws.length, u64s ws, true, rfl, h1.cel, by simp [u64s], by rw [List.drop_zero, List.take_of_length_le (by simp [u64s])], Nat.le_refl _, h1.celt⟩
def PcP.key (p : PcP) : Int × Int × Int × Int × List Nat := (p.x, p.y, (p.w : Nat), (p.h : Nat), Wds p.w p.h p.p)
def PcR.toO (r : PcR) : PcO := ⟨r.p.x, r.p.y, (r.p.w : Nat), (r.p.h : Nat), r.v, Wds r.p.w r.p.h r.p.p⟩
theorem toO_key (r : PcR) : r.toO.key = r.p.key := rfl
theorem toO_cells (PR : List PcR) : pcCells PR = poCells (PR.map PcR.toO) := by
  induction PR with
  | nil => rfl
  | cons r PR ih => rw [pcCells, List.flatMap_cons, show PR.flatMap PcR.cs = pcCells PR from rfl, ih]; rfl
theorem toO_keys {PR : List PcR} {L : List PcP} (h : PR.map PcR.p = L) : (PR.map PcR.toO).map PcO.key = L.map PcP.key := by
  subst h; rw [List.map_map, List.map_map]; rfl
def keyR (k : Int × Int × Int × Int × List Nat) : Prop := i64r k.1 ∧ i64r k.2.1 ∧ i64r k.2.2.1 ∧ i64r k.2.2.2.1
instance (n : Int) : Decidable (i64r n) := by unfold i64r; infer_instance
instance (k : Int × Int × Int × Int × List Nat) : Decidable (keyR k) := by unfold keyR; infer_instance
theorem stP_rd {ov : V} {PR : List PcR} {T : List As} (hr : ∀ k ∈ PR.map fun r => r.p.key, keyR k) : PcsRd (StP ov PR T) ov (PR.map PcR.toO) := by
  refine ⟨fun H h => ?_, fun o ho H h => ?_, fun o ho n hn => ?_, fun o ho => ?_⟩
  · have := (h.own).arr
    rw [toO_cells] at this
    rw [List.length_map]; exact this
  · obtain ⟨r, hr, rfl⟩ := List.mem_map.1 ho
    refine Hs.bmarr (R := StP ov PR T) h ?_
    exact List.mem_cons_of_mem _ (List.mem_append_left _ (List.mem_map.2 ⟨r, hr, rfl⟩))
  · obtain ⟨r, hr, rfl⟩ := List.mem_map.1 ho
    exact Wds_lt _ _ _ n hn
  · obtain ⟨r, hm, rfl⟩ := List.mem_map.1 ho
    exact hr _ (List.mem_map.2 ⟨r, hm, rfl⟩)
theorem bkPx_key : ∀ {L L' : List PcO}, L.map PcO.key = L'.map PcO.key → bkPx L = bkPx L' := by
  have gen : ∀ (L L' : List PcO) (f : Nat → Nat → Bool), L.map PcO.key = L'.map PcO.key → L.foldl (fun p o => blitP p (pixOf o.w.toNat o.ws) o.w.toNat o.h.toNat 0 0 o.w o.h o.x o.y 0) f = L'.foldl (fun p o => blitP p (pixOf o.w.toNat o.ws) o.w.toNat o.h.toNat 0 0 o.w o.h o.x o.y 0) f := by
    intro L
    induction L with
    | nil => intro L' f h; cases L' with
      | nil => rfl
      | cons a b => cases h
    | cons o L ih => intro L' f h; cases L' with
      | nil => cases h
      | cons a b =>
        rw [List.map_cons, List.map_cons] at h
        obtain ⟨h1, h2⟩ := List.cons.inj h
        simp only [PcO.key, Prod.mk.injEq] at h1
        obtain ⟨e1, e2, e3, e4, e5⟩ := h1
        rw [List.foldl_cons, List.foldl_cons, e1, e2, e3, e4, e5]
        exact ih b _ h2
  exact fun {L L'} h => gen L L' _ h
theorem wake_pcs : (pcsOf (pixOf 3 [2305843009213693952, 11529215046068469760]) 3 2).map PcP.key = [(2, 0, 1, 2, [9223372036854775808, 9223372036854775808]), (0, 1, 1, 1, [9223372036854775808])] := by decide +kernel
def wakeL : List PcO := [⟨2, 0, 1, 2, .un, [9223372036854775808, 9223372036854775808]⟩, ⟨0, 1, 1, 1, .un, [9223372036854775808]⟩]
theorem wake_bk : Wds 3 2 (bkPx wakeL) = [2305843009213693952, 11529215046068469760] := by decide +kernel
section
variable {P : Prog} {H : Heap} {R : List As} {Q : Out → Heap → Prop}
set_option maxHeartbeats 1000000 in
theorem wakes10_ct (hb : HasBm P) (hz : HasRz P) (hu : HasRu P) (hp : HasCo P) (hl : HasL10w P) (hs : Hs H R) (hQ : ∀ H', Hs H' R → Q (.ret (.bool true)) H') : Call P 178 [] H Q := by
  refine call_of hl.h_burinlaw10_wakes rfl ?_
  have g1 := (hs.alloc (l := [.int .u64 2305843009213693952, .int .u64 11529215046068469760])).alloc (l := [.int .i64 3, .int .i64 2, .sl (some (H.next, 0)) 2 2 1])
  rw [next_new] at g1
  have r1 := rd_bm g1 (List.mem_cons_self ..) 3 rfl
  simp -implicitDefEqProofs -dsimp (disch := omega) only [go_sem, dec_t, dec_f, r1]
  generalize (H.new _).new _ = H1 at *
  generalize H.next + 1 = b1 at *
  generalize H.next = b0 at *
  have hvv : ∀ H', Hs H' (Cel b1 [.int .i64 3, .int .i64 2, .sl (some (b0, 0)) 2 2 1] :: Cel b0 [.int .u64 2305843009213693952, .int .u64 11529215046068469760] :: R) → Arr H' (.sl (some (b0, 0)) 2 2 1) 1 2 (u64s [2305843009213693952, 11529215046068469760]) :=
    fun H' h' => arr_cel0 (b := b0) (ws := [2305843009213693952, 11529215046068469760]) (l := [.int .u64 2305843009213693952, .int .u64 11529215046068469760]) h' (by simp) rfl
  have hmay : mayB 3 2 [2305843009213693952, 11529215046068469760] := ⟨by decide, by decide, by unfold padOk; decide⟩
  refine compsOf_ct hb hu hp (ws := [2305843009213693952, 11529215046068469760]) g1 hvv (by decide) (by decide) (by decide) (fun k => absurd hmay k) fun _ ov PR H2 hPR h2 => ?_
  have hky : PR.map (fun r => r.p.key) = [(2, 0, 1, 2, [9223372036854775808, 9223372036854775808]), (0, 1, 1, 1, [9223372036854775808])] := by
    have := congrArg (List.map PcP.key) hPR
    rw [List.map_map] at this
    exact this.trans wake_pcs
  have hlen : PR.length = 2 := by simpa using congrArg List.length hky
  have hrd : PcsRd (StP ov PR (Cel b1 [.int .i64 3, .int .i64 2, .sl (some (b0, 0)) 2 2 1] :: Cel b0 [.int .u64 2305843009213693952, .int .u64 11529215046068469760] :: R)) ov (PR.map PcR.toO) := stP_rd (by rw [hky]; decide)
  have hok : ∀ k ∈ (PR.map PcR.toO).map PcO.key, mayB k.2.2.1 k.2.2.2.1 k.2.2.2.2 := by
    rw [toO_keys rfl, List.map_map, show PR.map (PcP.key ∘ PcR.p) = PR.map (fun r => r.p.key) from rfl, hky]
    intro k hk
    rcases List.mem_cons.1 hk with rfl | hk
    · exact ⟨by decide, by decide, by unfold padOk; decide⟩
    · rcases List.mem_cons.1 hk with rfl | hk
      · exact ⟨by decide, by decide, by unfold padOk; decide⟩
      · cases hk
  have hpo : ∀ o ∈ PR.map PcR.toO, poOk o := fun o ho => hok o.key (List.mem_map_of_mem ho)
  have hbk : bkPx (PR.map PcR.toO) = bkPx wakeL := bkPx_key (by
    rw [toO_keys rfl, List.map_map, show PR.map (PcP.key ∘ PcR.p) = PR.map (fun r => r.p.key) from rfl, hky]; rfl)
  simp -implicitDefEqProofs -dsimp (disch := omega) only [go_sem, dec_t, dec_f, ]
  refine compsBack_ct hb hp h2 hrd (by decide) (by decide) (by rw [List.length_map, hlen]; decide) (fun k => absurd ⟨⟨by decide, by decide, by decide⟩, hpo⟩ k) fun _ _ v' H3 h3 => ?_
  rw [hbk] at h3
  obtain ⟨va, vn, vc, ve, rfl⟩ : ∃ a n c e, v' = V.sl a n c e := by obtain ⟨vb, kv⟩ := bmV h3; exact ⟨_, _, _, _, kv.val⟩
  have h4 := h3.alloc (l := [.int .i64 3, .int .i64 2, .sl va vn vc ve])
  obtain ⟨r0, r1', rfl⟩ : ∃ r0 r1, PR = [r0, r1] := by
    match PR, hlen with
    | [a, c], _ => exact ⟨a, c, rfl⟩
  simp -implicitDefEqProofs -dsimp (disch := omega) only [go_sem, dec_t, dec_f, ]
  generalize H3.new _ = H4 at *
  generalize H3.next = b4 at *
  have arr := hrd.arr H4 h4.tail.tail
  simp only [List.map_cons, List.map_nil, List.cons.injEq, and_true] at hky
  obtain ⟨ky0, ky1⟩ := hky
  simp only [PcP.key, Prod.mk.injEq] at ky0 ky1
  obtain ⟨a1, a2, a3, a4, a5⟩ := ky0
  obtain ⟨c1, c2, c3, c4, c5⟩ := ky1
  obtain ⟨xb, xo, xc, rfl, _, q0, _⟩ := po_rd arr (a := 0) (by simp)
  obtain ⟨xb', xo', xc', ev, _, q1, _⟩ := po_rd arr (a := 1) (by simp)
  cases ev
  have p00 := q0 0 (by omega)
  have p01 := q0 1 (by omega)
  have p03 := q0 3 (by omega)
  have p10 := q1 0 (by omega)
  have p11 := q1 1 (by omega)
  simp only [List.map_cons, List.map_nil, List.getElem_cons_zero, List.getElem_cons_succ, PcO.cs, PcR.toO, a1, a2, a4, c1, c2, List.getElem?_cons_zero, List.getElem?_cons_succ, Nat.add_zero, Nat.zero_mul, Nat.one_mul] at p00 p01 p03 p10 p11
  have rb1 := rd_bm h4 (b := b1) (l := [.int .i64 3, .int .i64 2, .sl (some (b0, 0)) 2 2 1]) (by simp [StP]) 3 rfl
  have rb4 := rd_bm h4 (b := b4) (l := [.int .i64 3, .int .i64 2, .sl va vn vc ve]) (by simp) 3 rfl
  rw [show (List.map PcR.toO [r0, r1']).length = 2 from rfl]
  simp -implicitDefEqProofs -dsimp (disch := omega) only [go_sem, dec_t, dec_f, p00, p01, p03, p10, p11, rb1, rb4, show ((2 : Nat) : Int) = 2 from rfl]
  have hT : ∀ {H'} {X Y : As}, Hs H' (X :: Y :: StP (.sl (some (xb, xo)) 2 xc 5) [r0, r1'] (Cel b1 [.int .i64 3, .int .i64 2, .sl (some (b0, 0)) 2 2 1] :: Cel b0 [.int .u64 2305843009213693952, .int .u64 11529215046068469760] :: R)) → Hs H' (Cel b1 [.int .i64 3, .int .i64 2, .sl (some (b0, 0)) 2 2 1] :: Cel b0 [.int .u64 2305843009213693952, .int .u64 11529215046068469760] :: R) := fun h => (h.tail.tail.tail).drops
  refine eqb_ct hz h4 (bs := [2305843009213693952, 11529215046068469760]) (hvv H4 (hT h4)) ((h4.ofmem (A := BmA (.sl va vn vc ve) 3 2 (bkPx wakeL)) (List.mem_cons_of_mem _ (List.mem_cons_self ..))).bml.own.arr) (by decide) fun H5 h5 _ => ?_
  rw [decide_eq_true (show (3 : Int) = 3 ∧ (2 : Int) = 2 ∧ [2305843009213693952, 11529215046068469760] = Wds 3 2 (bkPx wakeL) from ⟨rfl, rfl, wake_bk.symm⟩)]
  simp -implicitDefEqProofs -dsimp (disch := omega) only [go_sem, dec_t, dec_f, ]
  exact hQ H5 (hT h5).tail.tail
end
end Go.Ab
