/- Of, refused or not; rows that were told, written over. Conditions: none. -/
import Derived.Test.YtdkgdneiilnppaaRh
set_option linter.all false
namespace Go.Ab
def OfR (w h : Int) (ws : List Nat) (e : Int) (rows : List (List (Int × Int))) : Prop := (mayB w h ws ∧ e = 0 ∧ rows = rowsOf (pixOf w.toNat ws) w.toNat h.toNat) ∨ (¬ mayB w h ws ∧ e = 80 ∧ rows = [])
theorem OfR.det {w h : Int} {ws : List Nat} {e e' : Int} {rows rows' : List (List (Int × Int))} (a : OfR w h ws e rows) (b : OfR w h ws e' rows') : e = e' ∧ rows = rows' := by
  rcases a with ⟨a1, a2, a3⟩ | ⟨a1, a2, a3⟩ <;> rcases b with ⟨b1, b2, b3⟩ | ⟨b1, b2, b3⟩
  · exact ⟨a2.trans b2.symm, a3.trans b3.symm⟩
  · exact absurd a1 b1
  · exact absurd b1 a1
  · exact ⟨a2.trans b2.symm, a3.trans b3.symm⟩
theorem str_out {H : Heap} {ov : V} {RL : List RowR} {T : List As} {A : As} (h : Hs H (StR ov RL (A :: T))) : Hs H (A :: StR ov RL T) :=
  Hs.perm h ((List.Perm.cons _ List.perm_middle).trans (List.Perm.swap _ _ _))
theorem str_in {H : Heap} {ov : V} {RL : List RowR} {T : List As} {A : As} (h : Hs H (A :: StR ov RL T)) : Hs H (StR ov RL (A :: T)) :=
  Hs.perm h ((List.Perm.swap _ _ _).trans (List.Perm.cons _ List.perm_middle.symm))
theorem str_drop {H : Heap} {ov : V} {RL : List RowR} {T : List As} (h : Hs H (StR ov RL T)) : Hs H T := (Hs.tail h).drops
theorem str_mem {ov : V} {RL : List RowR} {T : List As} {A : As} (h : A ∈ T) : A ∈ StR ov RL T := by simp [StR, h]
theorem bmo_at {H : Heap} {b o c : Nat} {l : List BmO} (h : Arr H (.sl (some (b, o)) l.length c 3) 3 l.length (bmCells l)) {i : Nat} (hi : i < l.length) : rd H (some 3) b (o + i * 3) = some (.agg [.int .i64 l[i].w, .int .i64 l[i].h, l[i].v]) ∧ rd H none b (o + i * 3 + 2) = some l[i].v := by
  refine ⟨by rw [h.agg hi, bmCells_at hi]; rfl, ?_⟩
  rw [h.rdm hi (by omega)]
  have := bmCells_at hi
  rw [show (bmCells l)[i * 3 + 2]? = (((bmCells l).drop (i * 3)).take 3)[2]? by simp [List.getElem?_take, List.getElem?_drop], this]; rfl
section
variable {P : Prog} {H : Heap} {R : List As} {Q : Out → Heap → Prop}
theorem runsOfR (hb : HasBm P) (hp : HasRu P) {w h : Int} {v : V} {ws : List Nat} (hs : Hs H R) (hv : ∀ H', Hs H' R → Arr H' v 1 ws.length (u64s ws)) (hl : ∀ n ∈ ws, n < 18446744073709551616) (hw : i64r w) (hh : i64r h)
    (hQ : ∀ ov RL e H', OfR w h ws e (RL.map RowR.l) → Hs H' (StR ov RL R) → Q (.ret (.tup [ov, .int .i64 e])) H') : Call P 115 [.agg [.int .i64 w, .int .i64 h, v]] H Q :=
  runsOf_ct hb hp hs hv hl hw hh (fun k H' h' => hQ _ [] 80 H' (Or.inr ⟨k, rfl, rfl⟩) (h'.lst (Same.refl _ _) (own_nil _ 1) fun _ h => h.elim)) fun k ov RL H' e h' => hQ ov RL 0 H' (Or.inl ⟨k, rfl, e⟩) h'
theorem refOfR (hz : HasRz P) (hp : HasRf9 P) {w h : Int} {v : V} {ws : List Nat} (hs : Hs H R) (hv : ∀ H', Hs H' R → Arr H' v 1 ws.length (u64s ws)) (hl : ∀ n ∈ ws, n < 18446744073709551616) (hw : i64r w) (hh : i64r h)
    (hQ : ∀ ov RL e H', OfR w h ws e (RL.map RowR.l) → Hs H' (StR ov RL R) → Q (.ret (.tup [ov, .int .i64 e])) H') : Call P 118 [.agg [.int .i64 w, .int .i64 h, v]] H Q :=
  refOf_ct hz hp hs hv hl hw hh (fun k H' h' => hQ _ [] 80 H' (Or.inr ⟨k, rfl, rfl⟩) (h'.lst (Same.refl _ _) (own_nil _ 1) fun _ h => h.elim)) fun k ov RL H' e h' => hQ ov RL 0 H' (Or.inl ⟨k, rfl, e⟩) h'
theorem OfR.len {w h : Int} {ws : List Nat} {e : Int} {rows : List (List (Int × Int))} (a : OfR w h ws e rows) : rows.length ≤ 1048576 ∧ ∀ l ∈ rows, l.length ≤ 1048576 := by
  rcases a with ⟨a1, a2, rfl⟩ | ⟨a1, a2, rfl⟩
  · have := sizeOk_le a1.1
    refine ⟨by rw [rowsOf_len]; omega, fun l hl => ?_⟩
    simp only [rowsOf, List.mem_map] at hl
    obtain ⟨y, _, rfl⟩ := hl
    have := rl_len (fun x => pixOf w.toNat ws x y) w.toNat
    omega
  · exact ⟨by simp, fun l hl => by cases hl⟩
end
end Go.Ab
