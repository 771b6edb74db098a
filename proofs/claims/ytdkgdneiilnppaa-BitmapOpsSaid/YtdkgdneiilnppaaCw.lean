/- Assertions by their place in the list: the contracts of maps in that form. Conditions: none. -/
import Derived.Test.YtdkgdneiilnppaaCv
set_option linter.all false
namespace Go.Ab

theorem HsF.foc {H : Heap} : ∀ {i : Nat} {L : List As} {A : As} {G : Nat → Prop}, HsF H G L → L[i]? = some A → HsF H G (A :: L.eraseIdx i)
  | 0, B :: L, A, G, h, e => by cases e; exact h
  | i + 1, B :: L, A, G, h, e => (HsF.tl (fun G k => k.foc (i := i) (by simpa using e)) h).p1
theorem HsF.unf {H : Heap} : ∀ {i : Nat} {L : List As} {A A' : As} {G : Nat → Prop}, HsF H G (A' :: L.eraseIdx i) → L[i]? = some A → HsF H G (L.set i A')
  | 0, B :: L, A, A', G, h, e => h
  | i + 1, B :: L, A, A', G, h, e => HsF.tl (fun G k => k.unf (i := i) (A := A) (by simpa using e)) h.p1
/-- The one at place i comes first; changed, it goes back. -/
theorem Hs.foc {H : Heap} {L : List As} {A : As} (i : Nat) (h : Hs H L) (e : L[i]? = some A) : Hs H (A :: L.eraseIdx i) := HsF.foc h e
theorem Hs.unf {H : Heap} {L : List As} {A A' : As} {i : Nat} (e : L[i]? = some A) (h : Hs H (A' :: L.eraseIdx i)) : Hs H (L.set i A') := HsF.unf h e
theorem Hs.unf1 {H : Heap} {L : List As} {A A' B : As} {i : Nat} (e : L[i]? = some A) (h : Hs H (B :: A' :: L.eraseIdx i)) : Hs H (B :: L.set i A') := HsF.tl (fun _ k => HsF.unf k e) h
theorem Hs.foc1 {H : Heap} {L : List As} {A B : As} (i : Nat) (h : Hs H (B :: L)) (e : L[i]? = some A) : Hs H (B :: A :: L.eraseIdx i) := HsF.tl (fun _ k => HsF.foc k e) h
theorem set_self {L : List As} {A : As} {i : Nat} (e : L[i]? = some A) : L.set i A = L := by
  refine List.ext_getElem? fun k => ?_
  rw [List.getElem?_set]
  by_cases hk : i = k
  · subst hk; rw [if_pos rfl, e]; have := (List.getElem?_eq_some_iff.1 e).1; simp [this]
  · rw [if_neg hk]
theorem HsF.mem {H : Heap} {A : As} : ∀ {R : List As} {G : Nat → Prop}, HsF H G R → A ∈ R → ∃ F, A.ok F H
  | B :: R, G, ⟨F, h1, _, h3⟩, hm => by
    rcases List.mem_cons.1 hm with rfl | hm
    · exact ⟨F, h1⟩
    · exact h3.mem hm
theorem Hs.mem {H : Heap} {A : As} {R : List As} (h : Hs H R) (hm : A ∈ R) : ∃ F, A.ok F H := HsF.mem h hm
theorem Hs.ofmem {H : Heap} {A : As} {R : List As} (h : Hs H R) (hm : A ∈ R) : Hs H [A] := by
  obtain ⟨F, k⟩ := h.mem hm
  exact ⟨F, k, fun _ _ h => h, trivial⟩
theorem Hs.bmarr {H : Heap} {v : V} {w h : Nat} {p : Nat → Nat → Bool} {R : List As} (hs : Hs H R) (hm : BmA v w h p ∈ R) : Arr H v 1 (Wds w h p).length (u64s (Wds w h p)) := (hs.ofmem hm).bml.own.arr
theorem Hs.celm {H : Heap} {b : Nat} {l : List V} {R : List As} (h : Hs H R) (hm : Cel b l ∈ R) : H.get b = .cells l true := (h.ofmem hm).cel
theorem Hs.ownm {H : Heap} {v : V} {e n : Nat} {l : List V} {R : List As} (h : Hs H R) (hm : Lst v e n l ∈ R) : Own H v e n l := (h.ofmem hm).own
/-- Two at once. -/
theorem Hs.foc2 {H : Heap} {L : List As} {A B : As} (i j : Nat) (h : Hs H L) (ei : L[i]? = some A) (ej : L[j]? = some B) (hij : i ≠ j) : ∃ R, Hs H (A :: B :: R) ∧ ∀ H' A', Hs H' (A' :: B :: R) → Hs H' (L.set i A') := by
  have h1 := h.foc j ej
  have e1 : (L.eraseIdx j)[if i < j then i else i - 1]? = some A := by
    rw [List.getElem?_eraseIdx]
    by_cases c : i < j
    · rw [if_pos c, if_pos c]; exact ei
    · rw [if_neg c, if_neg (by omega), show i - 1 + 1 = i by omega]; exact ei
  refine ⟨(L.eraseIdx j).eraseIdx (if i < j then i else i - 1), (Hs.foc1 _ h1 e1).p1, fun H' A' h' => ?_⟩
  have h2 := Hs.unf1 e1 h'.p1
  have h3 := Hs.unf (L := L.set i A') (i := j) (A := B) (A' := B) (by rw [List.getElem?_set_ne hij]; exact ej) (by
    have e2 : (L.set i A').eraseIdx j = (L.eraseIdx j).set (if i < j then i else i - 1) A' := by
      refine List.ext_getElem? fun k => ?_
      simp only [List.getElem?_eraseIdx, List.getElem?_set, List.length_eraseIdx]
      have l1 := (List.getElem?_eq_some_iff.1 ei).1
      have l2 := (List.getElem?_eq_some_iff.1 ej).1
      repeat' split
      all_goals first | rfl | omega
    rw [e2]; exact h2)
  rwa [set_self (by rw [List.getElem?_set_ne hij]; exact ej)] at h3

section
variable {P : Prog} {H : Heap} {L : List As} {Q : Out → Heap → Prop} {m w h : Nat} {p : Nat → Nat → Bool}
theorem blit_at (hp : HasBm P) (i j : Nat) {s sw sh : Nat} {q : Nat → Nat → Bool} (hs : Hs H L) (ei : L[i]? = some (MapA m w h p)) (ej : L[j]? = some (MapA s sw sh q)) (hij : i ≠ j)
    {sx sy ww hh dx dy op : Int} (h1 : i64r sx) (h2 : i64r sy) (h3 : i64r ww) (h4 : i64r hh) (h5 : i64r dx) (h6 : i64r dy) (h7 : i64r op)
    (hQ : ∀ H', Hs H' (L.set i (MapA m w h (if blitR ww hh op = 0 then blitP p q sw sh sx sy ww hh dx dy op.toNat else p))) → Q (.ret (.int .i64 (blitR ww hh op))) H') :
    Call P 64 [.ptr (some (m, 0)), .ptr (some (s, 0)), .int .i64 sx, .int .i64 sy, .int .i64 ww, .int .i64 hh, .int .i64 dx, .int .i64 dy, .int .i64 op] H Q := by
  obtain ⟨R, k1, k2⟩ := hs.foc2 i j ei ej hij
  exact blit_ct hp k1 h1 h2 h3 h4 h5 h6 h7 fun H' h' => hQ H' (k2 H' _ h')
theorem inv_at (hp : HasBm P) (i : Nat) (hs : Hs H L) (ei : L[i]? = some (MapA m w h p)) (hQ : ∀ H', Hs H' (L.set i (MapA m w h (fun i j => !p i j))) → Q (.ret (.tup [])) H') : Call P 66 [.ptr (some (m, 0))] H Q :=
  inv_ct hp (hs.foc i ei) fun H' h' => hQ H' (Hs.unf ei h')
theorem plain_at (hp : HasBm P) (i : Nat) (hs : Hs H L) (ei : L[i]? = some (MapA m w h p)) (hQ : ∀ v H', Hs H' (BmA v w h p :: L) → Q (.ret (.agg [.int .i64 w, .int .i64 h, v])) H') : Call P 45 [.ptr (some (m, 0))] H Q := by
  obtain ⟨z1, z2, z3, z4, z5⟩ := mapSz (hs.foc i ei)
  refine plain_ct hp (hs.foc i ei) fun v H' h' _ => hQ v H' ?_
  have := Hs.unf1 ei (bmA_of h' ⟨z1, z2, z3⟩)
  rwa [set_self ei] at this
theorem same_at (hq : HasL2 P) (i : Nat) {v : V} {q : Nat → Nat → Bool} (hs : Hs H L) (ei : L[i]? = some (MapA m w h p)) (ej : BmA v w h q ∈ L.eraseIdx i)
    (hQ : ∀ H', Hs H' L → Q (.ret (.bool (decide (∀ x y, x < w → y < h → p x y = q x y)))) H') : Call P 101 [.ptr (some (m, 0)), .agg [.int .i64 w, .int .i64 h, v]] H Q := by
  refine same_ct hq (hs.foc i ei) (fun H' h' => h'.bmarr ej) fun H' h' => ?_
  have h' := Hs.unf ei h'
  rw [set_self ei] at h'
  rw [decide_eq_decide.2 (show ((w : Int) = w ∧ (h : Int) = h ∧ Wds w h p = Wds w h q) ↔ ∀ x y, x < w → y < h → p x y = q x y from ⟨fun e => Wds_eq.1 e.2.2, fun e => ⟨rfl, rfl, Wds_eq.2 e⟩⟩)]
  exact hQ H' h'
theorem countB_at (hp : HasRz P) {v : V} (hs : Hs H L) (ej : BmA v w h p ∈ L) (hQ : ∀ H', Hs H' L → Q (.ret (.int .i64 (cnt2 w p h : Nat))) H') : Call P 81 [.agg [.int .i64 w, .int .i64 h, v]] H Q := by
  obtain ⟨j, hj⟩ := List.mem_iff_getElem?.1 ej
  refine countB_ct hp (hs.foc j hj) fun H' h' _ => ?_
  have h' := Hs.unf hj h'
  rw [set_self hj] at h'
  exact hQ H' h'
end
end Go.Ab
