/- A law's bitmap and its pieces. Conditions: none. -/
import Derived.Test.YtfgecfbknpifjaaPk
import Derived.Test.YtfgecfbknpifjaaC4
set_option linter.all false
namespace Go.Ab
structure HasL10 (P : Prog) : Prop where
  bm : HasBm P
  rz : HasRz P
  ru : HasRu P
  co : HasCo P
  w : HasL10w P
structure PcIn (w h : Nat) (p : PcP) : Prop where
  x : 0 ≤ p.x
  xw : p.x + (p.w : Nat) ≤ (w : Nat)
  y : 0 ≤ p.y
  yh : p.y + (p.h : Nat) ≤ (h : Nat)
  w1 : 1 ≤ p.w
  h1 : 1 ≤ p.h
  area : p.w * p.h ≤ w * h
theorem pcs_in {p : Nat → Nat → Bool} {w h : Nat} {P : PcP} (hP : P ∈ pcsOf p w h) : PcIn w h P := by
  obtain ⟨b, hb, rfl⟩ := List.mem_map.1 hP
  obtain ⟨o1, o2, o3, o4, o5, o6⟩ := (boxes_ok (ρ := rhoF (rowsOf p w h) h) (pl_ok (p := p) (w := w) (h := h)) (pl_mono h) (allPl (rowsOf p w h) h).length b hb).1
  exact ⟨o1, by simp only [BoxP.pc]; omega, by simp only [BoxP.pc]; omega, by simp only [BoxP.pc]; omega, by simp only [BoxP.pc]; omega, by simp only [BoxP.pc]; omega, Nat.mul_le_mul (by simp only [BoxP.pc]; omega) (by simp only [BoxP.pc]; omega)⟩
theorem pcs_may {p : Nat → Nat → Bool} {w h : Nat} {P : PcP} (hP : P ∈ pcsOf p w h) (ha : w * h ≤ 1048576) : mayB (P.w : Nat) (P.h : Nat) (Wds P.w P.h P.p) := by
  have k := pcs_in hP
  exact mayB_Wds k.w1 k.h1 (Nat.le_trans k.area ha)
theorem cnt_pos {w h : Nat} {p : Nat → Nat → Bool} {x y : Nat} (hx : x < w) (hy : y < h) (e : p x y = true) : 1 ≤ cnt2 w p h := by
  have sn : ∀ (f : Nat → Nat) (n i : Nat), i < n → f i ≤ sumN f n := fun f n => by
    induction n with
    | zero => intro i hi; omega
    | succ n ih => intro i hi; rw [sumN]; rcases Nat.lt_or_ge i n with k | k
                   · have := ih i k; omega
                   · obtain rfl : i = n := by omega
                     omega
  rw [cnt2_sum9]
  have h1 := sn (fun j => sumN (fun i => (p i j).toNat) w) h y hy
  have h2 := sn (fun i => (p i y).toNat) w x hx
  rw [e] at h2
  have : true.toNat = 1 := rfl
  omega
theorem pcs_pos {p : Nat → Nat → Bool} {w h : Nat} {P : PcP} (hP : P ∈ pcsOf p w h) : 1 ≤ cnt2 P.w P.p P.h := by
  obtain ⟨b, hb, rfl⟩ := List.mem_map.1 hP
  obtain ⟨F, hF, hFl⟩ := fst_rho (rowsOf p w h) h
  have hat := boxes_at hF (pl_mono (rows := rowsOf p w h) h) (allPl (rowsOf p w h) h).length (Nat.le_refl _) b hb
  obtain ⟨o1, o2, o3, o4, o5, o6⟩ := (boxes_ok (ρ := rhoF (rowsOf p w h) h) (pl_ok (p := p) (w := w) (h := h)) (pl_mono h) (allPl (rowsOf p w h) h).length b hb).1
  obtain ⟨z, x1, x2⟩ := hat.xa
  obtain ⟨k, hk, e, er⟩ := (boxes_in hF _ (Nat.le_refl _) b hb z).1 x1
  have px := o6 z x1
  unfold plOk at px
  have hin : inRun (allPl (rowsOf p w h) h) k z.1.1.toNat z.2 := ⟨z.1, e, by omega, by omega⟩
  obtain ⟨_, m2, m3, m4, m5⟩ := in_box hF hb hin er
  refine cnt_pos (x := z.1.1.toNat - b.x.toNat) (y := z.2 - b.y) (by simp only [BoxP.pc]; omega) (by simp only [BoxP.pc]; omega) ((boxPx_iff hF hb o1 _ _).2 ⟨k, ?_, er⟩)
  rw [show b.x.toNat + (z.1.1.toNat - b.x.toNat) = z.1.1.toNat by omega, show b.y + (z.2 - b.y) = z.2 by omega]; exact hin
theorem pcs_keyR {p : Nat → Nat → Bool} {w h : Nat} {PR : List PcR} (hPR : PR.map PcR.p = pcsOf p w h) (hw : w ≤ 1048576) (hh : h ≤ 1048576) : ∀ k ∈ PR.map fun r => r.p.key, keyR k := by
  intro k hk
  obtain ⟨r, hr, rfl⟩ := List.mem_map.1 hk
  have : r.p ∈ pcsOf p w h := by rw [← hPR]; exact List.mem_map_of_mem hr
  obtain ⟨a1, a2, a3, a4, a5, a6, a7⟩ := pcs_in this
  unfold keyR i64r PcP.key
  dsimp only
  omega
section
variable {P : Prog} {H0 H : Heap} {R : List As} {Q : Out → Heap → Prop} {o : BmO}
theorem mayO9 (hp : HasL10 P) (k : BmOk H0 o) (hs : Hs H R) (hb : Bas H0 ∈ R) (hQ : ∀ b H', (b = true ↔ mayB o.w o.h o.ws) → Hs H' R → Q (.ret (.bool b)) H') : Call P 76 [.agg [.int .i64 o.w, .int .i64 o.h, o.v]] H Q :=
  may_ct hp.rz hs (k.arr.same (hs.bas hb) fun _ _ h => h) k.lt k.w k.h fun b H' h1 h2 _ => hQ b H' h1 h2
theorem ofO (hp : HasL10 P) (k : BmOk H0 o) (m : mayB o.w o.h o.ws) (hs : Hs H R) (hb : Bas H0 ∈ R)
    (hQ : ∀ ov PR H', PR.map PcR.p = pcsOf o.px o.wn o.hn → Hs H' (StP ov PR R) → Q (.ret (.tup [ov, .int .i64 0])) H') : Call P 181 [.agg [.int .i64 o.w, .int .i64 o.h, o.v]] H Q :=
  compsOf_ct hp.bm hp.ru hp.co hs (fun H' h' => k.arr.same (h'.bas hb) fun _ _ h => h) k.lt k.w k.h (fun n => absurd m n) fun _ ov PR H' h1 h2 => hQ ov PR H' h1 h2
/-- Small of one bitmap that lies in a block. -/
theorem small9 (hq : HasL2 P) (k : BmOk H0 o) {b c : Nat} (hc : H.get b = .cells [.int .i64 o.w, .int .i64 o.h, o.v] true) (hQ : Q (.ret (.bool (decide (64 * o.ws.length + 64 ≤ 20000)))) H) : Call P 98 [.sl (some (b, 0)) 1 c 3, .int .i64 20000] H Q := by
  obtain ⟨a1, c1, e1, hv⟩ := k.arr.shape
  refine small_ct hq (b := b) (c := c) (lens := [o.ws.length]) (most := 20000) (fun i hi => ?_) (fun i hi => ?_) (by simp) (by omega) ?_
  · obtain rfl : i = 0 := by simpa using hi
    exact ⟨a1, c1, e1, by rw [rd_s hc]; simp [hv]⟩
  · obtain rfl : i = 0 := by simpa using hi
    have := k.len
    show o.ws.length ≤ _
    omega
  · have e : bigN [o.ws.length] [o.ws.length].length = 64 * o.ws.length + 64 := by simp [bigN, sumN]
    rw [e]; exact hQ
theorem st_rd {ov : V} {PR : List PcR} {T : List As} {p : Nat → Nat → Bool} {w h : Nat} (hPR : PR.map PcR.p = pcsOf p w h) (hw : w ≤ 1048576) (hh : h ≤ 1048576) : PcsRd (StP ov PR T) ov (PR.map PcR.toO) := stP_rd (pcs_keyR hPR hw hh)
theorem st_shape {ov : V} {PR : List PcR} {T : List As} {H : Heap} (hs : Hs H (StP ov PR T)) : ∃ a c e, ov = .sl a PR.length c e := (hs.own).arr.shape
theorem st_at {ov : V} {PR : List PcR} {T : List As} {H : Heap} (hs : Hs H (StP ov PR T)) {i : Nat} (hi : i < PR.length) :
    ∃ b o c, ov = .sl (some (b, o)) PR.length c 5 ∧ rd H (some 5) b (o + i * 5) = some (.agg PR[i].toO.cs) ∧ (∀ k, k < 5 → rd H none b (o + i * 5 + k) = PR[i].toO.cs[k]?) ∧ rd H (some 3) b (o + i * 5 + 2) = some (.agg [.int .i64 (PR[i].p.w : Nat), .int .i64 (PR[i].p.h : Nat), PR[i].v]) := by
  have := (hs.own).arr
  rw [toO_cells, ← List.length_map (f := PcR.toO)] at this
  obtain ⟨b, o, c, h1, h2, h3, h4⟩ := po_rd this (a := i) (by simpa using hi)
  rw [List.length_map] at h1
  rw [List.getElem_map] at h2 h3 h4
  exact ⟨b, o, c, h1, h2, h3, h4⟩
theorem st_bm {ov : V} {PR : List PcR} {T : List As} {r : PcR} (hr : r ∈ PR) : BmA r.v r.p.w r.p.h r.p.p ∈ StP ov PR T :=
  List.mem_cons_of_mem _ (List.mem_append_left _ (List.mem_map.2 ⟨r, hr, rfl⟩))
theorem Hs.stTail {ov : V} {PR : List PcR} {T : List As} {H : Heap} (hs : Hs H (StP ov PR T)) : Hs H T := (hs.tail).drops
end
end Go.Ab
