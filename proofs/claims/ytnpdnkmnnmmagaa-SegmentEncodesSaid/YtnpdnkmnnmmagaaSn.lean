/- A header is read again. Conditions: none; plain laws. -/
import Derived.Test.YtnpdnkmnnmmagaaSm
set_option linter.all false
namespace Go.Ab
section
variable {bs : List Nat} (hs : ∀ b ∈ bs, b < 256)
include hs
theorem num_fwd {p q : List Nat} {n bd : Nat} (e : bs = p ++ groups n ++ q) (hn : n < bd) (hb : n < 18446744073709551616) : numR bs bd (8 * p.length) = .ok (n, 8 * (p ++ groups n).length) := by
  refine numR_of ?_ hn
  rw [rVar_go hb]
  · rw [List.length_append]; congr 2; omega
  · rw [e, List.length_append, List.length_append]; omega
  · intro i hi
    have e2 : bs = p ++ (groups n ++ q) := by rw [e, List.append_assoc]
    rw [told_at hs e2 (by rw [List.length_append]; omega), List.getElem_append_left hi]
theorem tak_fwd {p q : List Nat} {n : Nat} (e : bs = p ++ [n] ++ q) : takR bs (8 * p.length) 8 = .ok (n, 8 * (p ++ [n]).length) := by
  have e2 : bs = p ++ (n :: q) := by rw [e]; simp
  have ht := told_at hs e2 (i := 0) (by simp)
  simp only [Nat.mul_zero, Nat.add_zero, List.getElem_cons_zero] at ht
  have hl : bs.length = p.length + 1 + q.length := by rw [e]; simp; omega
  unfold takR rTake
  rw [if_neg (show ¬ ((8 : Int) < 0 ∨ 64 < (8 : Int)) by omega), if_neg (show ¬ (8 * (bs.length : Int) - (8 * p.length : Nat) < 8) by omega)]
  rw [if_neg (by simp), if_neg (by simp)]
  simp only [show (8 : Int).toNat = 8 from rfl, ht]
  rw [List.length_append, List.length_singleton]; congr 2
theorem refs_fwd {num : Nat} (hnum : num ≤ 32768) : ∀ {L : List Int} {ah : Int} {p q : List Nat}, -1 ≤ ah → incrF num ah L = true → bs = p ++ (L.flatMap fun n => groups n.toNat) ++ q →
    refsR bs num L.length ah (8 * p.length) = .ok (L, 8 * (p ++ L.flatMap fun n => groups n.toNat).length)
  | [], ah, p, q, _, _, e => by simp [refsR]
  | n :: L, ah, p, q, ha, h, e => by
    simp only [incrF, Bool.and_eq_true, decide_eq_true_eq] at h
    obtain ⟨⟨h1, h2⟩, h3⟩ := h
    obtain ⟨m, rfl⟩ : ∃ m : Nat, n = (m : Nat) := ⟨n.toNat, by omega⟩
    rw [List.flatMap_cons, Int.toNat_natCast, ← List.append_assoc] at e ⊢
    rw [List.length_cons, refsR, num_fwd hs (n := m) (q := (L.flatMap fun n => groups n.toNat) ++ q) (by rw [e]; simp) (by omega) (by omega), exb_ok]
    dsimp only
    rw [if_neg (by omega), refs_fwd hnum (by omega) h3 e]
    rfl
theorem bit_at {p q : List Nat} {l : List Bool} (e : bs = p ++ pack l ++ q) {i : Nat} (hi : i < 8 * (pack l).length) : bitAt bs (8 * p.length + i) = l.getD i false := by
  rw [← bitAt_pack]
  unfold bitAt
  rw [show (8 * p.length + i) / 8 = p.length + i / 8 by omega, show (8 * p.length + i) % 8 = i % 8 by omega, e, List.append_assoc, List.getD_eq_getElem?_getD, List.getD_eq_getElem?_getD, List.getElem?_append_right (by omega),
    show p.length + i / 8 - p.length = i / 8 by omega, List.getElem?_append_left (by omega)]
theorem flg_fwd {p q : List Nat} {l : List Bool} (e : bs = p ++ pack l ++ q) {i : Nat} (hi : i < l.length) : flgR bs (8 * p.length + i) = .ok (l[i], 8 * p.length + (i + 1)) := by
  have hpk := pack_length l
  have hb := bit_at hs e (i := i) (by omega)
  rw [List.getD_eq_getElem?_getD, List.getElem?_eq_getElem hi, Option.getD_some] at hb
  have hl : bs.length = p.length + (pack l).length + q.length := by rw [e]; simp; omega
  have ht : takR bs (8 * p.length + i) 1 = .ok ((l[i]).toNat, 8 * p.length + (i + 1)) := by
    unfold takR rTake
    rw [if_neg (show ¬ ((1 : Int) < 0 ∨ 64 < (1 : Int)) by omega), if_neg (show ¬ (8 * (bs.length : Int) - (8 * p.length + i : Nat) < 1) by omega)]
    rw [if_neg (by simp), if_neg (by simp)]
    simp only [show (1 : Int).toNat = 1 from rfl, toldN, Nat.mul_zero, Nat.zero_add, Nat.add_zero, hb]
    rfl
  unfold flgR
  rw [ht, exb_ok]
  cases l[i] <;> rfl
theorem keep_fwd {p q : List Nat} {l : List Bool} (e : bs = p ++ pack l ++ q) : ∀ {m i : Nat}, i + m ≤ l.length → keepR bs m (8 * p.length + i) = .ok ((l.drop i).take m, 8 * p.length + (i + m))
  | 0, i, _ => by simp [keepR]
  | m + 1, i, h => by
    rw [keepR, flg_fwd hs e (by omega), exb_ok]
    dsimp only
    rw [keep_fwd e (m := m) (i := i + 1) (by omega), exb_ok, List.drop_eq_getElem_cons (i := i) (by omega), List.take_succ_cons]
    congr 2; omega
theorem aln_fwd {p q : List Nat} {l : List Bool} (e : bs = p ++ pack l ++ q) : alnR bs (8 * p.length + l.length) = .ok (8 * (p ++ pack l).length) := by
  have hpk := pack_length l
  have hz : toldN bs (8 * p.length + l.length) ((8 - (8 * p.length + l.length) % 8) % 8) = 0 := zero_told fun i hi => by
    have := bit_at hs e (i := l.length + i) (by omega)
    rw [Nat.add_assoc, this, List.getD_eq_getElem?_getD, List.getElem?_eq_none (by omega)]; rfl
  unfold alnR rAlign
  rw [hz, if_neg (show ¬ ((0 : Nat) ≠ 0) by simp), if_neg (by simp), if_neg (by simp)]
  rw [List.length_append, hpk]
  congr 1
  dsimp only; omega
end
theorem head_fwd {s : Sg} (hm : May s) {q : List Nat} (hq : ∀ b ∈ q, b < 256) : headR (hdr s ++ q) = .ok (withData s [], s.data.length, 8 * (hdr s).length) := by
  have hk := hm.kind
  have hpg := hm.page
  have hnn := hm.n0
  have hn1 := hm.n1
  have hin := hm.incr
  have hml := may_len hm
  have hkl := hm.keep
  have hdl := hm.most
  have hk2 := hk
  have hr := hm.refs
  have hst := hm.stay
  have hdt := hm.data
  unfold kindOk at hk2
  have hb : ∀ b ∈ hdr s ++ q, b < 256 := fun b h => by
    rcases List.mem_append.1 h with h | h
    · exact hdr_lt (by omega) b h
    · exact hq b h
  have hpg2 : 0 ≤ s.page ∧ s.page ≤ 64 := by unfold pagedP at hpg; omega
  obtain ⟨num, kind, page, refs, keep, stay, data⟩ := s
  dsimp only at *
  obtain ⟨num, rfl⟩ : ∃ m : Nat, num = (m : Nat) := ⟨num.toNat, by omega⟩
  obtain ⟨kind, rfl⟩ : ∃ m : Nat, kind = (m : Nat) := ⟨kind.toNat, by omega⟩
  obtain ⟨page, rfl⟩ : ∃ m : Nat, page = (m : Nat) := ⟨page.toNat, by omega⟩
  generalize hbs : hdr ⟨(num : Nat), (kind : Nat), (page : Nat), refs, keep, stay, data⟩ ++ q = bs at *
  have eb : bs = groups num ++ [kind] ++ groups page ++ groups refs.length ++ (refs.flatMap fun n => groups n.toNat) ++ pack (keep ++ [stay]) ++ groups data.length ++ q := by
    rw [← hbs]; unfold hdr hdA; simp only [Int.toNat_natCast, List.append_assoc]
  have el : 8 * (hdr ⟨(num : Nat), (kind : Nat), (page : Nat), refs, keep, stay, data⟩).length = 8 * (groups num ++ [kind] ++ groups page ++ groups refs.length ++ (refs.flatMap fun n => groups n.toNat) ++ pack (keep ++ [stay]) ++ groups data.length).length := by
    unfold hdr hdA; simp only [Int.toNat_natCast]
  rw [el]
  unfold headR
  have s1 := num_fwd hb (p := []) (n := num) (bd := 32768) (q := [kind] ++ groups page ++ groups refs.length ++ (refs.flatMap fun n => groups n.toNat) ++ pack (keep ++ [stay]) ++ groups data.length ++ q) (by rw [eb]; simp only [List.append_assoc, List.nil_append]) (by omega) (by omega)
  rw [List.nil_append, List.length_nil, Nat.mul_zero] at s1
  rw [s1, exb_ok]
  dsimp only
  rw [tak_fwd hb (p := groups num) (n := kind) (q := groups page ++ groups refs.length ++ (refs.flatMap fun n => groups n.toNat) ++ pack (keep ++ [stay]) ++ groups data.length ++ q) (by rw [eb]; simp only [List.append_assoc]), exb_ok]
  dsimp only
  rw [if_pos hk]
  rw [num_fwd hb (p := groups num ++ [kind]) (n := page) (bd := 65) (q := groups refs.length ++ (refs.flatMap fun n => groups n.toNat) ++ pack (keep ++ [stay]) ++ groups data.length ++ q) (by rw [eb]; simp only [List.append_assoc]) (by omega) (by omega), exb_ok]
  dsimp only
  rw [if_pos hpg]
  rw [num_fwd hb (p := groups num ++ [kind] ++ groups page) (n := refs.length) (bd := num + 1) (q := (refs.flatMap fun n => groups n.toNat) ++ pack (keep ++ [stay]) ++ groups data.length ++ q) (by rw [eb]; simp only [List.append_assoc]) (by omega) (by omega), exb_ok]
  dsimp only
  rw [if_neg (fun k => k.2 (hr k.1))]
  rw [refs_fwd hb (by omega) (by omega) hin (p := groups num ++ [kind] ++ groups page ++ groups refs.length) (q := pack (keep ++ [stay]) ++ groups data.length ++ q) (by rw [eb]; simp only [List.append_assoc]), exb_ok]
  dsimp only
  have e5 : bs = (groups num ++ [kind] ++ groups page ++ groups refs.length ++ refs.flatMap fun n => groups n.toNat) ++ pack (keep ++ [stay]) ++ (groups data.length ++ q) := by rw [eb]; simp only [List.append_assoc]
  generalize hp : groups num ++ [kind] ++ groups page ++ groups refs.length ++ (refs.flatMap fun n => groups n.toNat) = p at *
  have hlen : (keep ++ [stay]).length = refs.length + 1 := by rw [List.length_append, List.length_singleton, hkl]
  have s6 := keep_fwd hb e5 (m := refs.length) (i := 0) (by omega)
  rw [Nat.add_zero, List.drop_zero, ← hkl, List.take_left' rfl, hkl, Nat.zero_add] at s6
  rw [s6, exb_ok]
  dsimp only
  have s7 := flg_fwd hb e5 (i := refs.length) (by omega)
  rw [List.getElem_append_right (by omega)] at s7
  simp only [hkl, Nat.sub_self, List.getElem_cons_zero] at s7
  rw [s7, exb_ok]
  dsimp only
  rw [if_neg (fun k => k.2 (hst k.1))]
  have s8 := aln_fwd hb e5
  rw [hlen] at s8
  rw [s8, exb_ok]
  rw [num_fwd hb (p := p ++ pack (keep ++ [stay])) (n := data.length) (bd := 67108865) (q := q) eb (by omega) (by omega), exb_ok]
  dsimp only
  rw [if_neg (fun k => k.2 (hdt k.1))]
  rfl
theorem groups_lim {n k : Nat} (h : n < 128 ^ (k + 1)) : (groups n).length ≤ k + 1 := by
  rw [groups_len]
  have := cnt_le k (n / 128) (by rw [Nat.pow_succ] at h; omega)
  omega
theorem hdr_len {s : Sg} (hm : May s) : (hdr s).length ≤ 131136 := by
  have hk := hm.kind
  have hpg := hm.page
  have hnn := hm.n0
  have hn1 := hm.n1
  have hin := hm.incr
  have hml := may_len hm
  have hkl := hm.keep
  have hdl := hm.most
  have hpg2 : 0 ≤ s.page ∧ s.page ≤ 64 := by unfold pagedP at hpg; omega
  have g1 := groups_lim (n := s.num.toNat) (k := 2) (by omega)
  have g2 := groups_lim (n := s.page.toNat) (k := 0) (by omega)
  have g3 := groups_lim (n := s.refs.length) (k := 2) (by omega)
  have g4 := groups_lim (n := s.data.length) (k := 3) (by omega)
  have g5 : ∀ l : List Int, (∀ n ∈ l, (-1 : Int) < n ∧ n < s.num) → (l.flatMap fun n => groups n.toNat).length ≤ 3 * l.length := by
    intro l
    induction l with
    | nil => intro _; simp
    | cons n l ih =>
      intro h
      have h1 := h n (by simp)
      have g := groups_lim (n := n.toNat) (k := 2) (by omega)
      have := ih fun m hm => h m (by simp [hm])
      rw [List.flatMap_cons, List.length_append, List.length_cons]; omega
  have g6 := g5 s.refs (incr_all hin)
  have g7 := pack_length (s.keep ++ [s.stay])
  rw [List.length_append, List.length_singleton] at g7
  unfold hdr hdA
  simp only [List.length_append, List.length_singleton]
  omega
end Go.Ab
