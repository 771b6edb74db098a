/- Numbers in range, lists that lie in the heap, what a run leaves as it was. Conditions: none; plain laws of the machine's heap. -/
import Derived.Test.YtdkgdneiilnppaaBa
set_option linter.all false
namespace Go.Ab

theorem w64 {n : Int} (h : -9223372036854775808 ≤ n ∧ n ≤ 9223372036854775807) : IntKind.wrap .i64 n = n := by
  simp only [IntKind.wrap, IntKind.bits, IntKind.signed, Bool.true_and, Bool.false_and, decide_eq_true_eq, Bool.false_eq_true, if_false, Nat.reduceSub, ge_iff_le]; try split
  all_goals omega
theorem wu64 {n : Int} (h : 0 ≤ n ∧ n ≤ 18446744073709551615) : IntKind.wrap .u64 n = n := by
  simp only [IntKind.wrap, IntKind.bits, IntKind.signed, Bool.true_and, Bool.false_and, decide_eq_true_eq, Bool.false_eq_true, if_false, Nat.reduceSub, ge_iff_le]; try split
  all_goals omega
theorem wu8 {n : Int} (h : 0 ≤ n ∧ n ≤ 255) : IntKind.wrap .u8 n = n := by
  simp only [IntKind.wrap, IntKind.bits, IntKind.signed, Bool.true_and, Bool.false_and, decide_eq_true_eq, Bool.false_eq_true, if_false, Nat.reduceSub, ge_iff_le]; try split
  all_goals omega
theorem tdivN {a b : Int} (h : 0 ≤ a) : a.tdiv b = a / b := Int.tdiv_eq_ediv_of_nonneg h
theorem tmodN {a b : Int} (h : 0 ≤ a) : a.tmod b = a % b := Int.tmod_eq_emod_of_nonneg h

@[go_sem] theorem get_put (H : Heap) (b x : Nat) (o : Obj) : (H.put b o).get x = if x = b then o else H.get x := rfl
@[go_sem] theorem get_new (H : Heap) (x : Nat) (o : Obj) : (H.new o).get x = if x = H.next then o else H.get x := rfl
@[go_sem] theorem next_put (H : Heap) (b : Nat) (o : Obj) : (H.put b o).next = H.next := rfl
@[go_sem] theorem next_new (H : Heap) (o : Obj) : (H.new o).next = H.next + 1 := rfl

theorem rd_s {H : Heap} {b : Nat} {l : List V} {w : Bool} (h : H.get b = .cells l w) (o : Nat) : rd H none b o = l[o]? := by simp only [rd, h]
theorem rd_m {H : Heap} {b : Nat} {l : List V} {w : Bool} (h : H.get b = .cells l w) (n o : Nat) : rd H (some n) b o = (piece l o n).map .agg := by simp only [rd, h]
theorem wr_s {H : Heap} {b : Nat} {l : List V} (h : H.get b = .cells l true) (o : Nat) (vs : List V) :
    wr H b o vs = if o + vs.length ≤ l.length then (if vs.all one = true then some (H.put b (.cells (over l o vs) true)) else none) else none := by simp only [wr, h]
@[go_sem] theorem rd_put (H : Heap) (b x k : Nat) (l : List V) (w : Bool) : rd (H.put b (.cells l w)) none x k = if x = b then l[k]? else rd H none x k := by
  by_cases h : x = b <;> simp only [rd, get_put, h, if_true, if_false]
@[go_sem] theorem rd_new (H : Heap) (x k : Nat) (l : List V) (w : Bool) : rd (H.new (.cells l w)) none x k = if x = H.next then l[k]? else rd H none x k := by
  by_cases h : x = H.next <;> simp only [rd, get_new, h, if_true, if_false]

theorem put_put (H : Heap) (b : Nat) (o o' : Obj) : (H.put b o).put b o' = H.put b o' := by
  simp only [Heap.put]; congr 1; funext x; split <;> rfl
@[go_sem] theorem wr_put (H : Heap) (b o : Nat) (l vs : List V) :
    wr (H.put b (.cells l true)) b o vs = if o + vs.length ≤ l.length then (if vs.all one = true then some (H.put b (.cells (over l o vs) true)) else none) else none := by
  simp only [wr, get_put, if_true, put_put]

theorem put_new (H : Heap) (o o' : Obj) : (H.new o).put H.next o' = H.new o' := by
  simp only [Heap.put, Heap.new]; congr 1; funext x; split <;> rfl
def wrN (H : Heap) (l0 : List V) (x o : Nat) (vs : List V) : Option Heap := wr (H.new (.cells l0 true)) x o vs
@[go_sem] theorem wr_new (H : Heap) (x o : Nat) (l vs : List V) :
    wr (H.new (.cells l true)) x o vs = if x = H.next then (if o + vs.length ≤ l.length then (if vs.all one = true then some (H.new (.cells (over l o vs) true)) else none) else none) else wrN H l x o vs := by
  by_cases h : x = H.next
  · rw [if_pos h, h]; simp only [wr, get_new, if_true, put_new]
  · rw [if_neg h]; rfl
@[go_sem] theorem nn1 (n : Nat) : (n = n + 1) = False := by simp
@[go_sem] theorem nn2 (n : Nat) : (n = n + 1 + 1) = False := by simp only [eq_iff_iff, iff_false]; omega
@[go_sem] theorem nn3 (n : Nat) : (n = n + 1 + 1 + 1) = False := by simp only [eq_iff_iff, iff_false]; omega
@[go_sem] theorem nm1 (n : Nat) : (n + 1 = n) = False := by simp
@[go_sem] theorem nm2 (n : Nat) : (n + 1 + 1 = n) = False := by simp only [eq_iff_iff, iff_false]; omega
@[go_sem] theorem nm3 (n : Nat) : (n + 1 + 1 + 1 = n) = False := by simp only [eq_iff_iff, iff_false]; omega

/-- But for S, what was there is as it was. -/
structure Same (S : Nat → Prop) (H H' : Heap) : Prop where
  le : H.next ≤ H'.next
  eq : ∀ b, b < H.next → ¬ S b → H'.get b = H.get b

theorem Same.refl (S : Nat → Prop) (H : Heap) : Same S H H := ⟨Nat.le_refl _, fun _ _ _ => rfl⟩
theorem Same.mono {S T : Nat → Prop} {H H' : Heap} (h : Same S H H') (hs : ∀ b, b < H.next → S b → T b) : Same T H H' :=
  ⟨h.le, fun b hb ht => h.eq b hb fun hsb => ht (hs b hb hsb)⟩
theorem Same.trans {S T : Nat → Prop} {H H' H'' : Heap} (h : Same S H H') (h' : Same T H' H'') (ht : ∀ b, b < H.next → T b → S b) : Same S H H'' :=
  ⟨Nat.le_trans h.le h'.le, fun b hb hs => (h'.eq b (Nat.lt_of_lt_of_le hb h.le) fun ht' => hs (ht b hb ht')).trans (h.eq b hb hs)⟩
theorem Same.put {S : Nat → Prop} {H : Heap} {b : Nat} {o : Obj} (h : S b) : Same S H (H.put b o) :=
  ⟨Nat.le_refl _, fun x _ hs => by simp only [get_put]; rw [if_neg]; intro e; exact hs (e ▸ h)⟩
theorem Same.new (S : Nat → Prop) (H : Heap) (o : Obj) : Same S H (H.new o) :=
  ⟨Nat.le_succ _, fun x hx _ => by simp only [get_new]; rw [if_neg (by omega)]⟩

/-- A slice's block. -/
def sb : V → Nat → Prop
  | .sl (some (b, _)) _ _ _, x => x = b
  | _, _ => False

/-- A list of one's own: n elements, these cells, nothing behind them. -/
def Own (H : Heap) (v : V) (e n : Nat) (L : List V) : Prop :=
  (v = .sl none 0 0 0 ∧ n = 0 ∧ L = []) ∨ ∃ b, v = .sl (some (b, 0)) n n e ∧ H.get b = .cells L true ∧ L.length = n * e ∧ b < H.next

/-- A list that can be read: n elements, these cells. -/
def Arr (H : Heap) (v : V) (e n : Nat) (L : List V) : Prop :=
  (v = .sl none 0 0 0 ∧ n = 0 ∧ L = []) ∨ ∃ b o c l w, v = .sl (some (b, o)) n c e ∧ H.get b = .cells l w ∧ o + n * e ≤ l.length ∧ L = (l.drop o).take (n * e) ∧ n ≤ c ∧ b < H.next

theorem Own.arr {H : Heap} {v : V} {e n : Nat} {L : List V} (h : Own H v e n L) : Arr H v e n L := by
  rcases h with h | ⟨b, hv, hg, hl, hb⟩
  · exact Or.inl h
  · exact Or.inr ⟨b, 0, n, L, true, hv, hg, by omega, by simp [← hl], Nat.le_refl _, hb⟩
theorem Own.same {S : Nat → Prop} {H H' : Heap} {v : V} {e n : Nat} {L : List V} (h : Own H v e n L) (s : Same S H H') (hs : ∀ b, sb v b → ¬ S b) : Own H' v e n L := by
  rcases h with h | ⟨b, hv, hg, hl, hb⟩
  · exact Or.inl h
  · exact Or.inr ⟨b, hv, (s.eq b hb (hs b (by rw [hv]; exact rfl))).trans hg, hl, Nat.lt_of_lt_of_le hb s.le⟩
theorem Arr.same {S : Nat → Prop} {H H' : Heap} {v : V} {e n : Nat} {L : List V} (h : Arr H v e n L) (s : Same S H H') (hs : ∀ b, sb v b → ¬ S b) : Arr H' v e n L := by
  rcases h with h | ⟨b, o, c, l, w, hv, hg, hl, hL, hc, hb⟩
  · exact Or.inl h
  · exact Or.inr ⟨b, o, c, l, w, hv, (s.eq b hb (hs b (by rw [hv]; exact rfl))).trans hg, hl, hL, hc, Nat.lt_of_lt_of_le hb s.le⟩
theorem Arr.lt {H : Heap} {v : V} {e n : Nat} {L : List V} (h : Arr H v e n L) {b : Nat} (hs : sb v b) : b < H.next := by
  rcases h with ⟨hv, _⟩ | ⟨b', o, c, l, w, hv, _, _, _, _, hb⟩
  · rw [hv] at hs; exact absurd hs id
  · rw [hv] at hs; cases hs; exact hb
theorem Own.lt {H : Heap} {v : V} {e n : Nat} {L : List V} (h : Own H v e n L) {b : Nat} (hs : sb v b) : b < H.next := h.arr.lt hs
theorem Arr.length {H : Heap} {v : V} {e n : Nat} {L : List V} (h : Arr H v e n L) : L.length = n * e := by
  rcases h with ⟨_, hn, hL⟩ | ⟨b, o, c, l, w, hv, hg, hl, hL, hc, hb⟩
  · simp [hn, hL]
  · rw [hL]; simp; omega
theorem Own.length {H : Heap} {v : V} {e n : Nat} {L : List V} (h : Own H v e n L) : L.length = n * e := h.arr.length
theorem own_nil (H : Heap) (e : Nat) : Own H (.sl none 0 0 0) e 0 [] := Or.inl ⟨rfl, rfl, rfl⟩

/-- The shape of a slice that can be read. -/
theorem Arr.shape {H : Heap} {v : V} {e n : Nat} {L : List V} (h : Arr H v e n L) : ∃ a c e', v = .sl a n c e' := by
  rcases h with ⟨hv, hn, _⟩ | ⟨b, o, c, l, w, hv, _⟩
  · exact ⟨none, 0, 0, by rw [hv, hn]⟩
  · exact ⟨_, c, e, hv⟩

/-- The place of an element, and what is read there. -/
theorem Arr.at {H : Heap} {v : V} {e n : Nat} {L : List V} (h : Arr H v e n L) {i : Nat} (hi : i < n) :
    ∃ b o c, v = .sl (some (b, o)) n c e ∧ b < H.next ∧ (∀ k, k < e → rd H none b (o + i * e + k) = L[i * e + k]?) ∧ ∀ k m, k + m ≤ e → rd H (some m) b (o + i * e + k) = some (.agg ((L.drop (i * e + k)).take m)) := by
  rcases h with ⟨_, hn, _⟩ | ⟨b, o, c, l, w, hv, hg, hl, hL, hc, hb⟩
  · omega
  · have hie : i * e + e ≤ n * e := by rw [← Nat.succ_mul]; exact Nat.mul_le_mul_right e hi
    refine ⟨b, o, c, hv, hb, fun k hk => ?_, fun k m hk => ?_⟩
    · simp only [rd, hg]; rw [hL, List.getElem?_take, if_pos (by omega), List.getElem?_drop]; congr 1; omega
    · simp only [rd, hg, piece]; rw [if_pos (by omega), hL]; simp only [Option.map_some]
      rw [List.drop_take, List.drop_drop, List.take_take, Nat.min_eq_left (by omega), show o + (i * e + k) = o + i * e + k by omega]

theorem firsts_arr {H : Heap} {v : V} {e n : Nat} {L : List V} (h : Arr H v e n L) : firsts H e v = some (n, L) := by
  rcases h with ⟨hv, hn, hL⟩ | ⟨b, o, c, l, w, hv, hg, hl, hL, hc, hb⟩
  · rw [hv, hn, hL]; rfl
  · rw [hv]; simp only [firsts, hg, if_true, piece]; rw [if_pos hl, hL]; rfl

/-- A copy: elements behind none. -/
theorem app_nil {H : Heap} {y : V} {e eb m : Nat} {M : List V} (hy : firsts H e y = some (m, M)) (hm : M.length = m * e) (ho : M.all one = true) (hg : m * eb ≤ 281474976710656) :
    ∃ v' H', app H e eb (.sl none 0 0 0) y = some (v', H') ∧ Own H' v' e m M ∧ Same (fun _ => False) H H' ∧ (∀ b, sb v' b → H.next ≤ b) := by
  cases m with
  | zero =>
    have : M = [] := List.eq_nil_of_length_eq_zero (by simpa using hm)
    subst this
    exact ⟨_, _, by simp only [app, hy]; rfl, Or.inl ⟨rfl, rfl, rfl⟩, Same.refl _ _, fun b hb => absurd hb id⟩
  | succ m =>
    refine ⟨.sl (some (H.next, 0)) (m + 1) (m + 1) e, H.new (.cells M true), ?_, Or.inr ⟨H.next, by simp, by simp only [get_new, if_true], by simp [hm], by simp [next_new]⟩, Same.new _ _ _, fun b hb => (Nat.le_of_eq hb.symm)⟩
    simp only [app, hy, Option.isSome_none, Bool.false_and, Bool.false_eq_true, if_false, ho, if_true, growOk]
    rw [if_neg (by omega), if_pos]
    simp only [decide_eq_true_eq]; rw [Nat.zero_add]; exact hg

/-- Elements are laid behind a list of one's own. -/
theorem app_own {H : Heap} {v y : V} {e eb n m : Nat} {L M : List V} (h : Own H v e n L) (hy : firsts H e y = some (m, M)) (hm : M.length = m * e) (ho : M.all one = true)
    (he : 0 < e) (hg : (2 * (n + m) + 1024) * eb ≤ 281474976710656) :
    ∃ v' H', app H e eb v y = some (v', H') ∧ Own H' v' e (n + m) (L ++ M) ∧ Same (sb v) H H' ∧ (∀ b, sb v' b → sb v b ∨ H.next ≤ b) := by
  rcases h with ⟨hv, hn, hL⟩ | ⟨b, hv, hgb, hl, hb⟩
  · subst hv hn hL
    cases m with
    | zero =>
      have : M = [] := List.eq_nil_of_length_eq_zero (by simpa using hm)
      subst this
      exact ⟨_, _, by simp only [app, hy]; rfl, Or.inl ⟨rfl, rfl, rfl⟩, Same.refl _ _, fun b hb => absurd hb id⟩
    | succ m =>
      refine ⟨.sl (some (H.next, 0)) (m + 1) (m + 1) e, H.new (.cells M true), ?_, Or.inr ⟨H.next, by simp, by simp only [get_new, if_true, List.nil_append], by simp [hm], by simp [next_new]⟩, Same.new _ _ _, fun b hb => Or.inr (Nat.le_of_eq hb.symm)⟩
      simp only [app, hy, Option.isSome_none, Bool.false_and, Bool.false_eq_true, if_false, ho, if_true, growOk]
      rw [if_neg (by omega), if_pos]
      have : (0 + (m + 1)) * eb ≤ (2 * (0 + (m + 1)) + 1024) * eb := Nat.mul_le_mul_right eb (by omega)
      simp only [decide_eq_true_eq]; omega
  · subst hv
    cases m with
    | zero =>
      have : M = [] := List.eq_nil_of_length_eq_zero (by simpa using hm)
      subst this
      refine ⟨_, _, ?_, Or.inr ⟨b, rfl, by rw [List.append_nil]; exact hgb, by simpa using hl, hb⟩, Same.refl _ _, fun x hx => Or.inl hx⟩
      simp [app, hy, hgb]
    | succ m =>
      refine ⟨.sl (some (H.next, 0)) (n + (m + 1)) (n + (m + 1)) e, (H.put b .dead).new (.cells (L ++ M) true), ?_, Or.inr ⟨H.next, rfl, by simp only [get_new, next_put, if_true], by simp only [List.length_append, hl, hm, Nat.add_mul], by simp [next_new, next_put]⟩, ?_, fun x hx => Or.inr (Nat.le_of_eq hx.symm)⟩
      · simp only [app, hy, Option.isSome_some, Bool.true_and, bne_self_eq_false, Bool.false_eq_true, if_false, ho, if_true, growOk, hgb, piece, Nat.zero_add]
        rw [if_neg (by omega), if_pos (by simpa using hg), if_pos (by omega), ← hl]; simp
      · exact (Same.put (S := sb (.sl (some (b, 0)) n n e)) (b := b) (o := .dead) rfl).trans (Same.new (sb (.sl (some (b, 0)) n n e)) _ _) fun _ _ h => h

theorem firsts_new1 (H : Heap) (M : List V) (e n : Nat) (h : M.length = n * e) : firsts (H.new (.cells M true)) e (.sl (some (H.next, 0)) n n e) = some (n, M) := by
  simp only [firsts, get_new, if_true, piece]; rw [if_pos (by omega), ← h]; simp
/-- One more element, out of a list that was made for it. -/
theorem app_one {H : Heap} {v : V} {e eb n m : Nat} {L M : List V} (h : Own H v e n L) (hm : M.length = m * e) (ho : M.all one = true) (he : 0 < e) (hg : (2 * (n + m) + 1024) * eb ≤ 281474976710656) :
    ∃ v' H', app (H.new (.cells M true)) e eb v (.sl (some (H.next, 0)) m m e) = some (v', H') ∧ Own H' v' e (n + m) (L ++ M) ∧ Same (sb v) H H' ∧ (∀ b, sb v' b → sb v b ∨ H.next ≤ b) := by
  have h1 : Own (H.new (.cells M true)) v e n L := h.same (Same.new (fun _ => False) _ _) (fun _ _ h => h)
  obtain ⟨v', H', ha, hb, hs, hf⟩ := app_own h1 (firsts_new1 H M e m hm) hm ho he hg
  refine ⟨v', H', ha, hb, (Same.new (sb v) _ _).trans hs fun _ _ h => h, fun b hb => (hf b hb).elim Or.inl fun hx => Or.inr ?_⟩
  simp only [next_new] at hx; omega

/-- An element of a list of one's own is written. -/
theorem wr_own {H : Heap} {v : V} {e n : Nat} {L : List V} (h : Own H v e n L) {i k : Nat} (hi : i < n) {vs : List V} (hk : k + vs.length ≤ e) (ho : vs.all one = true) :
    ∃ b, v = .sl (some (b, 0)) n n e ∧ b < H.next ∧ wr H b (i * e + k) vs = some (H.put b (.cells (over L (i * e + k) vs) true)) ∧ Own (H.put b (.cells (over L (i * e + k) vs) true)) v e n (over L (i * e + k) vs)
      ∧ Same (sb v) H (H.put b (.cells (over L (i * e + k) vs) true)) := by
  rcases h with ⟨_, hn, _⟩ | ⟨b, hv, hg, hl, hb⟩
  · omega
  · have hie : i * e + e ≤ n * e := by rw [← Nat.succ_mul]; exact Nat.mul_le_mul_right e hi
    refine ⟨b, hv, hb, ?_, Or.inr ⟨b, hv, by simp only [get_put, if_true], ?_, by simpa [next_put] using hb⟩, Same.put (by rw [hv]; exact rfl)⟩
    · simp only [wr, hg]; rw [if_pos (by omega), if_pos ho]
    · simp only [over, List.length_append, List.length_take, List.length_drop]; omega

theorem over_one {L : List V} {i : Nat} {v : V} (hi : i < L.length) : over L i [v] = L.set i v := by
  simp only [over, List.length_cons, List.length_nil, List.set_eq_take_append_cons_drop, hi, if_true, List.append_assoc, List.singleton_append]

end Go.Ab
namespace Go.Ab
/-- What is read of a list whose place is known. -/
theorem Arr.rdm {H : Heap} {b o n c e : Nat} {L : List V} (h : Arr H (.sl (some (b, o)) n c e) e n L) {i k : Nat} (hi : i < n) (hk : k < e) : rd H none b (o + i * e + k) = L[i * e + k]? := by
  obtain ⟨b', o', c', hv, _, h1, _⟩ := h.at hi
  cases hv
  exact h1 k hk
theorem Arr.rd1 {H : Heap} {b o n c : Nat} {L : List V} (h : Arr H (.sl (some (b, o)) n c 1) 1 n L) {i : Nat} (hi : i < n) : rd H none b (o + i) = L[i]? := by
  have := h.rdm hi (show 0 < 1 by omega)
  simpa using this
theorem Arr.agg {H : Heap} {b o n c e : Nat} {L : List V} (h : Arr H (.sl (some (b, o)) n c e) e n L) {i : Nat} (hi : i < n) : rd H (some e) b (o + i * e) = some (.agg ((L.drop (i * e)).take e)) := by
  obtain ⟨b', o', c', hv, _, _, h2⟩ := h.at hi
  cases hv
  simpa using h2 0 e (by omega)
/-- Where a list with an element lies. -/
theorem Arr.at0 {H : Heap} {v : V} {e n : Nat} {L : List V} (h : Arr H v e n L) (hn : 0 < n) : ∃ b o c, v = .sl (some (b, o)) n c e := by
  obtain ⟨b, o, c, hv, _⟩ := h.at hn
  exact ⟨b, o, c, hv⟩
end Go.Ab
namespace Go.Ab
theorem Arr.cap {H : Heap} {p : Nat × Nat} {n c e : Nat} {L : List V} {e' m : Nat} (h : Arr H (.sl (some p) n c e') e m L) : n ≤ c ∧ e' = e ∧ m = n := by
  rcases h with ⟨hv, _⟩ | ⟨b, o, c', l, w, hv, _, _, _, hc, _⟩
  · cases hv
  · cases hv; exact ⟨hc, rfl, rfl⟩
/-- The first elements; the last. -/
theorem Arr.take {H : Heap} {b o n c e : Nat} {L : List V} (h : Arr H (.sl (some (b, o)) n c e) e n L) {k : Nat} (hk : k ≤ n) : Arr H (.sl (some (b, o)) k c e) e k (L.take (k * e)) := by
  rcases h with ⟨hv, _⟩ | ⟨b', o', c', l, w, hv, hg, hl, hL, hc, hb⟩
  · cases hv
  · cases hv
    have : k * e ≤ n * e := Nat.mul_le_mul_right _ hk
    refine Or.inr ⟨b, o, c, l, w, rfl, hg, by omega, ?_, by omega, hb⟩
    rw [hL, List.take_take, Nat.min_eq_left this]
theorem Arr.drop {H : Heap} {b o n c e : Nat} {L : List V} (h : Arr H (.sl (some (b, o)) n c e) e n L) {k : Nat} (hk : k ≤ n) : Arr H (.sl (some (b, o + k * e)) (n - k) (c - k) e) e (n - k) (L.drop (k * e)) := by
  rcases h with ⟨hv, _⟩ | ⟨b', o', c', l, w, hv, hg, hl, hL, hc, hb⟩
  · cases hv
  · cases hv
    have : k * e ≤ n * e := Nat.mul_le_mul_right _ hk
    have h2 : (n - k) * e = n * e - k * e := Nat.sub_mul _ _ _
    refine Or.inr ⟨b, o + k * e, c - k, l, w, rfl, hg, by omega, ?_, by omega, hb⟩
    rw [hL, List.drop_take, List.drop_drop, h2]
/-- A block, and a slice's. -/
def wf (w : Nat) (v : V) (b : Nat) : Prop := b = w ∨ sb v b
end Go.Ab
