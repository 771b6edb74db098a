/- Parts of a proof over an abstract machine: Fv, Fw, Fx, PRf16, St, Su, Sv, PL17Writes, Fo, PRf17, Fi, Fj, Fk, Fl, Fm, Fn, PL17Faults, Fy, Fz, LawFileFaults. Conditions: none. -/
import Derived.Test.YteihedfehcelhaaGreatFf1
import Derived.Test.YteihedfehcelhaaGreatFf2
import Derived.Test.YteihedfehcelhaaGreatFf3
import Derived.Test.YteihedfehcelhaaGreatFf4
import Derived.Test.YteihedfehcelhaaGreatFf5
set_option linter.all false
namespace Go.Ab
section
variable {P : Prog} {H : Heap} {R : List As} {Q : Out → Heap → Prop}
/-- The first fault, while the file has not ended. -/
def firstE (m : Nat) : OSt → List Sg → Option Int
  | _, [] => none
  | o, s :: r => if comeE m o s ≠ 0 then some (comeE m o s) else if s.kind = 7 then none else firstE m (comeO o s) r
def pbS (s : Sg) : List Nat := hdr s ++ s.data
theorem comeE_data {m : Nat} {o : OSt} {s : Sg} {d : List Nat} : comeE m o (withData s d) = comeE m o s := rfl
theorem comeO_data {o : OSt} {s : Sg} {d : List Nat} : comeO o (withData s d) = comeO o s := rfl
theorem withOk {s : Sg} (h : s.Ok) : (withData s []).Ok := ⟨h.num, h.kind, h.page, h.refs, (fun b hb => nomatch hb), h.l1, h.l2, (by simp [withData])⟩
theorem come_next (o : OSt) (s : Sg) : (comeO o s).next = o.next + 1 := rfl
def seqF17 (lb rp : Nat) (i : Nat) : Fr := ⟨[(0, .yld 237 lb), (1, .ptr (some (rp, 0))), (5, .bool true)], []⟩
set_option maxHeartbeats 2000000 in
theorem seq_loop (hp : HasFw P) (hfs : HasFs P) (hg : HasSeg P) (hb : HasBits P) {lb lc rp rb r m : Nat} {fb fo fc : Nat} {pre suf : List Nat} {ss : List Sg} {f : List Nat} {x2 lv0 : V} {cs0 : List V} {o0 : OSt} {e : Int} (hM : ∀ s ∈ ss, May s) (hOk : ∀ s ∈ ss, s.Ok)
    (hf : f = pre ++ ss.flatMap pbS ++ suf) (hlen : f.length ≤ 100000000000000) (hn : ss.length ≤ 100000) (hm : m ≤ 1000000) (hE : firstE m o0 ss = some e) (ok0 : o0.Ok m) (on0 : o0.next = 0) (hR : ∀ H', Hs H' R → Arr H' (.sl (some (fb, fo)) f.length fc 1) 1 f.length (u8s f)) (h256 : ∀ b ∈ f, b < 256)
    (hs : Hs H (MpA r o0.held :: Cel rb (ord3 (.sl (some (fb, fo)) f.length fc 1) (.int .i64 (pre.length : Nat)) x2 m o0 r) :: Cel rp [.ptr (some (rb, 0))] :: ObA lb (.lp 237 [(1, .ptr (some (lc, 0)))] 0 none) :: Cel lc [lv0] :: Lst lv0 7 0 cs0 :: R)) {Qp : Post} {s' t'}
    (h1 : ∀ y fr H', fr.ds = [] → Hs H' (Cel lc [y] :: R) → Qp (.pan (flt17 e)) fr H') : loopL (Call P) [0, 1, 5] file_reader_segments_1_l0 Qp s' t' (seqF17 lb rp 0) H := by
  refine loop_decP (σ := Nat) (fun i => ss.length - i) (seqF17 lb rp) (fun i H => i ≤ ss.length ∧ ∃ (oi : OSt) (lv : V) (cs : List V), oi.Ok m ∧ oi.next = i ∧ firstE m oi (ss.drop i) = some e ∧
    Hs H (MpA r oi.held :: Cel rb (ord3 (.sl (some (fb, fo)) f.length fc 1) (.int .i64 ((pre ++ (ss.take i).flatMap pbS).length : Nat)) x2 m oi r) :: Cel rp [.ptr (some (rb, 0))] :: ObA lb (.lp 237 [(1, .ptr (some (lc, 0)))] 0 none) :: Cel lc [lv] :: Lst lv 7 i cs :: R))
    (fun i H K ok hnx hx hy hz => ?_) 0 H ⟨Nat.zero_le _, o0, lv0, cs0, ok0, on0, hE, by simpa using hs⟩
  obtain ⟨hi, oi, lv, cs, oki, oni, hEi, hS⟩ := ok
  have hlt : i < ss.length := by
    rcases Nat.lt_or_ge i ss.length with h | h
    · exact h
    · rw [List.drop_of_length_le h] at hEi; cases hEi
  rw [List.drop_eq_getElem_cons hlt, firstE] at hEi
  have hms := hM _ (List.getElem_mem hlt)
  have hos := hOk _ (List.getElem_mem hlt)
  have ht := flat_snoc pbS ss hlt
  have hff : f = (pre ++ (ss.take i).flatMap pbS) ++ hdr ss[i] ++ (ss[i].data ++ ((ss.drop (i + 1)).flatMap pbS ++ suf)) := by
    have hfm : ss.flatMap pbS = (ss.take i).flatMap pbS ++ (pbS ss[i] ++ (ss.drop (i + 1)).flatMap pbS) := by
      rw [← List.flatMap_cons, ← List.flatMap_append, ← List.drop_eq_getElem_cons hlt, List.take_append_drop]
    rw [hf, hfm]
    simp [pbS, List.append_assoc]
  have hdec := dec_fwd hms (x := pre ++ (ss.take i).flatMap pbS) (y := ss[i].data ++ ((ss.drop (i + 1)).flatMap pbS ++ suf)) (fun b hb => h256 b (by rw [hff]; exact List.mem_append_right _ hb))
  rw [← hff] at hdec
  have hlf := congrArg List.length hff
  simp only [List.length_append] at hlf
  unfold seqF17
  have rp1 := rd_s (Hs.p2 hS).cel
  have hnx := hnx (i + 1)
  generalize hpos : (pre ++ (ss.take i).flatMap pbS).length = pos at *
  have hpos2 : (pre ++ (ss.take (i + 1)).flatMap pbS).length = pos + (hdr ss[i]).length + ss[i].data.length := by
    rw [ht, ← hpos]; simp [pbS]; omega
  rw [hpos2] at hnx
  have hpl : pos = pre.length + ((ss.take i).flatMap pbS).length := by rw [← hpos]; simp
  generalize ss[i] = s at *
  simp -implicitDefEqProofs -dsimp (disch := omega) only [go_sem, dec_t, dec_f, file_reader_segments_1_l0, rp1]
  refine header_ct hp hg hb (s := withData s []) oki hm (by omega) (fun H' h => hR H' h.tail.tail.tail.tail) hlen (by omega) h256 hdec rfl (withOk hos) hms.keep hS (fun he v1 v2 H2 o1 o2 g2 => ?_) (fun he H2 g2 => ?_)
  rotate_left
  · rw [comeE_data] at he ⊢
    rw [if_pos he] at hEi
    cases hEi
    simp -implicitDefEqProofs -dsimp (disch := omega) only [go_sem, dec_t, dec_f, ]
    rw [hz]
    exact h1 _ _ _ rfl g2.tail.tail.tail2
  rw [comeE_data] at he
  rw [if_neg (by simpa using he)] at hEi
  rw [comeO_data] at g2
  have hk7 : ¬ s.kind = 7 := fun k => by rw [if_pos k] at hEi; cases hEi
  rw [if_neg hk7] at hEi
  obtain ⟨a1, m1, z1, e1, rfl⟩ := o1
  obtain ⟨a2, m2, z2, e2, rfl⟩ := o2
  have c1 : (withData s []).cells (.sl a1 m1 z1 e1) (.sl a2 m2 z2 e2) (.sl none 0 0 0) = [.int .i64 s.num, .int .i64 s.kind, .int .i64 s.page, .sl a1 m1 z1 e1, .sl a2 m2 z2 e2, .bool s.stay, .sl none 0 0 0] := rfl
  rw [c1]
  have g3 := g2.alloc (l := [.int .i64 s.num, .int .i64 s.kind, .int .i64 s.page, .sl a1 m1 z1 e1, .sl a2 m2 z2 e2, .bool s.stay, .sl none 0 0 0])
  have rp3 := rd_s (Hs.p3 g3).cel
  have okc := oki.come he
  simp -implicitDefEqProofs -dsimp (disch := omega) only [go_sem, dec_t, dec_f, rp3]
  refine data_ct hp (fun H' h => hR H' h.tail.tail.tail.tail.tail) hlen (by omega) (Hs.p2 (Hs.p2 g3)) fun v3 H4 o3 g4 => ?_
  obtain ⟨a3, m3, z3, e3, rfl⟩ := o3
  have w4 := wr_s (Hs.p2 g4).cel 6
  have g5 := (Hs.p2 g4).put (l' := [.int .i64 s.num, .int .i64 s.kind, .int .i64 s.page, .sl a1 m1 z1 e1, .sl a2 m2 z2 e2, .bool s.stay, .sl a3 m3 z3 e3])
  have rm5 := rd_m g5.cel 7
  have r5 := rd_s g5.cel
  simp -implicitDefEqProofs -dsimp (disch := omega) only [go_sem, dec_t, dec_f, w4, rm5]
  refine ops_yc rfl rfl ?_
  have g6 := Hs.perm g5 (L' := ObA lb (.lp 237 [(1, .ptr (some (lc, 0)))] 0 none) :: Cel lc [lv] :: Lst lv 7 i cs :: Cel H2.next [.int .i64 s.num, .int .i64 s.kind, .int .i64 s.page, .sl a1 m1 z1 e1, .sl a2 m2 z2 e2, .bool s.stay, .sl a3 m3 z3 e3] :: MpA r (comeO oi s).held :: Cel rb (ord3 (.sl (some (fb, fo)) f.length fc 1) (.int .i64 ((pos + (hdr s).length + s.data.length : Nat) : Int)) x2 m (comeO oi s) r) :: Cel rp [.ptr (some (rb, 0))] :: R) (by
    classical
    refine List.perm_iff_count.2 fun A => ?_
    simp only [List.count_cons]
    ac_rfl)
  refine round_ct hfs (by omega) ⟨_, _, _, _, rfl⟩ ⟨_, _, _, _, rfl⟩ ⟨_, _, _, _, rfl⟩ g6 fun lv' cs' H5 g7 => ?_
  have r7 := rd_s (Hs.p3 g7).cel
  have g8 := Hs.perm (Hs.p3 g7).tail (L' := MpA r (comeO oi s).held :: Cel rb (ord3 (.sl (some (fb, fo)) f.length fc 1) (.int .i64 ((pos + (hdr s).length + s.data.length : Nat) : Int)) x2 m (comeO oi s) r) :: Cel rp [.ptr (some (rb, 0))] :: ObA lb (.lp 237 [(1, .ptr (some (lc, 0)))] 0 none) :: Cel lc [lv'] :: Lst lv' 7 (i + 1) cs' :: R) (by
    classical
    refine List.perm_iff_count.2 fun A => ?_
    simp only [List.count_cons]
    ac_rfl)
  have hnx := hnx H5 (by omega) ⟨by omega, comeO oi s, lv', cs', okc, by rw [come_next, oni], hEi, g8⟩
  simp -implicitDefEqProofs -dsimp (disch := omega) only [go_sem, dec_t, dec_f, r7]
  exact hnx
end
end Go.Ab
namespace Go.Ab
section
variable {P : Prog} {H : Heap} {R : List As} {Q : Out → Heap → Prop}
/-- A loop; the frame behind a round may bear more than the loop keeps. -/
theorem loop_decK {P : Prog} {c : Cd} {live : List Nat} {Q : Post} {t : Tag Q} {s : Tag c} {σ : Type} (m : σ → Nat) (F : σ → Fr) (S : σ → Heap → Prop)
    (round : ∀ x H (K : Post), S x H → (∀ y fr H', m y < m x → fr.keep live = F y → S y H' → K .normal fr H') → (∀ id fr H, K (.exit id) fr H = Q (.exit id) fr H) → (∀ fr H, K .ret fr H = Q .ret fr H) → (∀ v fr H, K (.pan v) fr H = Q (.pan v) fr H) → wpC (Call P) c K (F x) H)
    (x : σ) (fr : Fr) (H : Heap) (hf : fr.keep live = F x) (h : S x H) : loopL (Call P) live c Q t s fr H :=
  loop_inv (fun k fr H => ∃ y, k = m y ∧ fr.keep live = F y ∧ S y H) (fun k fr H ⟨y, hk, hf, hs⟩ => by
    subst hk
    rw [hf]
    exact round y H _ hs (fun z fr' H' hz hf' h' => rnd_n (m z) hz ⟨z, rfl, hf', h'⟩) (fun _ _ _ => rfl) (fun _ _ => rfl) (fun _ _ _ => rfl)) (m x) fr H ⟨x, rfl, hf, h⟩
def hdsF (rb : Nat) (x : Nat × V) : Fr := ⟨[(0, .ptr (some (rb, 0))), (3, x.2)], []⟩
set_option maxHeartbeats 2000000 in
theorem hds_ct (hp : HasFw P) (hg : HasSeg P) (hb : HasBits P) {rb r m : Nat} {fb fo fc : Nat} {pre suf : List Nat} {ss : List Sg} {f : List Nat} {x2 : V} {o0 : OSt} {e : Int} (hM : ∀ s ∈ ss, May s) (hOk : ∀ s ∈ ss, s.Ok)
    (hf : f = pre ++ ss.flatMap hdr ++ suf) (hlen : f.length ≤ 100000000000000) (hn : ss.length ≤ 100000) (hm : m ≤ 1000000) (hE : firstE m o0 ss = some e) (ok0 : o0.Ok m) (on0 : o0.next = 0) (hR : ∀ H', Hs H' R → Arr H' (.sl (some (fb, fo)) f.length fc 1) 1 f.length (u8s f)) (h256 : ∀ b ∈ f, b < 256)
    (hs : Hs H (MpA r o0.held :: Cel rb (ord3 (.sl (some (fb, fo)) f.length fc 1) (.int .i64 (pre.length : Nat)) x2 m o0 r) :: R))
    (h1 : ∀ H', Hs H' R → Q (.pan (flt17 e)) H') : Call P 221 [.ptr (some (rb, 0))] H Q := by
  refine call_of hp.h_file_reader_headers rfl ?_
  simp -implicitDefEqProofs -dsimp (disch := omega) only [go_sem, dec_t, dec_f, ]
  refine loop_decK (σ := Nat × V) (fun x => ss.length - x.1) (hdsF rb) (fun x H => x.1 ≤ ss.length ∧ ∃ (oi : OSt) (cs : List V), oi.Ok m ∧ oi.next = x.1 ∧ firstE m oi (ss.drop x.1) = some e ∧
    Hs H (MpA r oi.held :: Cel rb (ord3 (.sl (some (fb, fo)) f.length fc 1) (.int .i64 ((pre ++ (ss.take x.1).flatMap hdr).length : Nat)) x2 m oi r) :: Lst x.2 8 x.1 cs :: R))
    (fun x H K ok hnx hx hy hz => ?_) (0, .sl none 0 0 0) _ H rfl ⟨Nat.zero_le _, o0, [], ok0, on0, hE, ?_⟩
  rotate_left
  · simpa using Hs.p2 (Hs.p2 (hs.lst (v := .sl none 0 0 0) (e := 8) (n := 0) (L := []) (Same.refl _ _) (Or.inl ⟨rfl, rfl, rfl⟩) fun b h => h.elim))
  obtain ⟨i, lv⟩ := x
  obtain ⟨hi, oi, cs, oki, oni, hEi, hS⟩ := ok
  dsimp only at hi oni hEi hS hnx
  have hlt : i < ss.length := by
    rcases Nat.lt_or_ge i ss.length with h | h
    · exact h
    · rw [List.drop_of_length_le h] at hEi; cases hEi
  rw [List.drop_eq_getElem_cons hlt, firstE] at hEi
  have hms := hM _ (List.getElem_mem hlt)
  have hos := hOk _ (List.getElem_mem hlt)
  have ht := flat_snoc hdr ss hlt
  have hff : f = (pre ++ (ss.take i).flatMap hdr) ++ hdr ss[i] ++ ((ss.drop (i + 1)).flatMap hdr ++ suf) := by
    have hfm : ss.flatMap hdr = (ss.take i).flatMap hdr ++ (hdr ss[i] ++ (ss.drop (i + 1)).flatMap hdr) := by
      rw [← List.flatMap_cons, ← List.flatMap_append, ← List.drop_eq_getElem_cons hlt, List.take_append_drop]
    rw [hf, hfm]
    simp [List.append_assoc]
  have hdec := dec_fwd hms (x := pre ++ (ss.take i).flatMap hdr) (y := (ss.drop (i + 1)).flatMap hdr ++ suf) (fun b hb => h256 b (by rw [hff]; exact List.mem_append_right _ hb))
  rw [← hff] at hdec
  have hlf := congrArg List.length hff
  simp only [List.length_append] at hlf
  unfold hdsF
  have hnx := fun v fr => hnx (i + 1, v) fr
  generalize hpos : (pre ++ (ss.take i).flatMap hdr).length = pos at *
  have hpos2 : (pre ++ (ss.take (i + 1)).flatMap hdr).length = pos + (hdr ss[i]).length := by
    rw [ht, ← hpos]; simp; omega
  dsimp only at hnx
  rw [hpos2] at hnx
  have hpl : pos = pre.length + ((ss.take i).flatMap hdr).length := by rw [← hpos]; simp
  generalize ss[i] = s at *
  simp -implicitDefEqProofs -dsimp (disch := omega) only [go_sem, dec_t, dec_f, file_reader_headers_l0]
  refine header_ct hp hg hb (s := withData s []) oki hm (by omega) (fun H' h => hR H' h.tail) hlen (by omega) h256 hdec rfl (withOk hos) hms.keep hS (fun he v1 v2 H2 o1 o2 g2 => ?_) (fun he H2 g2 => ?_)
  rotate_left
  · rw [comeE_data] at he ⊢
    rw [if_pos he] at hEi
    cases hEi
    simp -implicitDefEqProofs -dsimp (disch := omega) only [go_sem, dec_t, dec_f, ]
    rw [hz]
    simp -implicitDefEqProofs -dsimp (disch := omega) only [go_sem, dec_t, dec_f, ]
    exact h1 _ g2.tail
  rw [comeE_data] at he
  rw [if_neg (by simpa using he)] at hEi
  rw [comeO_data] at g2
  have hk7 : ¬ s.kind = 7 := fun k => by rw [if_pos k] at hEi; cases hEi
  rw [if_neg hk7] at hEi
  obtain ⟨a1, m1, z1, e1, rfl⟩ := o1
  obtain ⟨a2, m2, z2, e2, rfl⟩ := o2
  have c1 : (withData s []).cells (.sl a1 m1 z1 e1) (.sl a2 m2 z2 e2) (.sl none 0 0 0) = [.int .i64 s.num, .int .i64 s.kind, .int .i64 s.page, .sl a1 m1 z1 e1, .sl a2 m2 z2 e2, .bool s.stay, .sl none 0 0 0] := rfl
  rw [c1]
  have g3 := g2.alloc (l := [.int .i64 s.num, .int .i64 s.kind, .int .i64 s.page, .sl a1 m1 z1 e1, .sl a2 m2 z2 e2, .bool s.stay, .sl none 0 0 0])
  have r3 := rd_s g3.cel
  have rm3 := rd_m g3.cel 7
  have okc := oki.come he
  obtain ⟨lv', H4, k4, o4, s4, f4⟩ := app_oneT (e := 8) (eb := 112) (m := 1) (M := [.int .i64 s.num, .int .i64 s.kind, .int .i64 s.page, .sl a1 m1 z1 e1, .sl a2 m2 z2 e2, .bool s.stay, .sl none 0 0 0, .int .i64 (s.data.length : Nat)]) (Hs.p3 g3).own rfl rfl (by omega) (by omega)
  have g4 := (Hs.p3 g3).lst' s4 o4 f4
  have r4 := rd_s (Hs.p1 g4).cel
  rw [next_new] at k4
  have hnx := fun fr hfr => hnx lv' fr H4 (by omega) hfr ⟨by omega, comeO oi s, _, okc, by rw [come_next, oni], hEi, Hs.p2 (Hs.p2 (Hs.p1 g4).tail)⟩
  simp -implicitDefEqProofs -dsimp (disch := omega) only [go_sem, dec_t, dec_f, rm3, k4, r4]
  exact hnx _ rfl
end
end Go.Ab
namespace Go.Ab
section
variable {P : Prog} {H : Heap} {R : List As} {Q : Out → Heap → Prop}
/-- A file's bytes: what stands ahead; segments, in two organisations. -/
def rawB (rnd : Bool) (l : List Sg) : List Nat := if rnd then l.flatMap hdr ++ l.flatMap Sg.data else l.flatMap pbS
theorem segsF_ct (hp : HasFw P) (hfs : HasFs P) (hg : HasSeg P) (hb : HasBits P) {lb lc rp rb r m : Nat} {fb fo fc : Nat} {pre : List Nat} {ss : List Sg} {f : List Nat} {rnd : Bool} {lv0 : V} {e : Int} (hM : ∀ s ∈ ss, May s) (hOk : ∀ s ∈ ss, s.Ok)
    (hf : f = pre ++ rawB rnd ss) (hpre : pre.length = 6) (hlen : f.length ≤ 100000000000000) (hn : ss.length ≤ 100000) (hm : m ≤ 1000000) (hE : firstE m ⟨0, 0, false, []⟩ ss = some e) (hR : ∀ H', Hs H' R → Arr H' (.sl (some (fb, fo)) f.length fc 1) 1 f.length (u8s f)) (h256 : ∀ b ∈ f, b < 256) (hlv : lv0 = .sl none 0 0 0)
    (hs : Hs H (MpA r [] :: Cel rb (ord3 (.sl (some (fb, fo)) f.length fc 1) (.int .i64 6) (.bool rnd) m ⟨0, 0, false, []⟩ r) :: Cel rp [.ptr (some (rb, 0))] :: ObA lb (.lp 237 [(1, .ptr (some (lc, 0)))] 0 none) :: Cel lc [lv0] :: R))
    (h1 : ∀ y H', Hs H' (Cel lc [y] :: R) → Q (.pan (flt17 e)) H') : Call P 215 [.yld 237 lb, .ptr (some (rp, 0))] H Q := by
  refine call_of hp.h_file_reader_segments_1 rfl ?_
  have rp1 := rd_s (Hs.p2 hs).cel
  have rb1 := rd_s (Hs.p1 hs).cel
  unfold ord3 at rb1
  cases rnd with
  | false =>
    simp -implicitDefEqProofs -dsimp (disch := omega) only [go_sem, dec_t, dec_f, rp1, rb1]
    have g : Hs H (MpA r (⟨0, 0, false, []⟩ : OSt).held :: Cel rb (ord3 (.sl (some (fb, fo)) f.length fc 1) (.int .i64 (pre.length : Nat)) (.bool false) m ⟨0, 0, false, []⟩ r) :: Cel rp [.ptr (some (rb, 0))] :: ObA lb (.lp 237 [(1, .ptr (some (lc, 0)))] 0 none) :: Cel lc [lv0] :: Lst lv0 7 0 [] :: R) := by
      rw [hpre]
      have g := hs.lst (v := lv0) (e := 7) (n := 0) (L := []) (Same.refl _ _) (by rw [hlv]; exact Or.inl ⟨rfl, rfl, rfl⟩) (fun b h => by rw [hlv] at h; exact h.elim)
      refine Hs.perm g ?_
      classical
      refine List.perm_iff_count.2 fun A => ?_
      simp only [List.count_cons]
      ac_rfl
    refine seq_loop (suf := []) hp hfs hg hb hM hOk (by rw [hf]; simp [rawB]) hlen hn hm hE (OSt.ok0 m) rfl hR h256 g (fun y fr H' hd h => ?_)
    obtain ⟨tm, ds⟩ := fr
    dsimp only at hd
    subst hd
    simp -implicitDefEqProofs -dsimp (disch := omega) only [go_sem, dec_t, dec_f, ]
    exact h1 y H' h
  | true =>
    simp -implicitDefEqProofs -dsimp (disch := omega) only [go_sem, dec_t, dec_f, rp1, rb1]
    refine hds_ct (o0 := ⟨0, 0, false, []⟩) (suf := ss.flatMap Sg.data) (pre := pre) hp hg hb hM hOk (by rw [hf]; simp [rawB, List.append_assoc]) hlen hn hm hE (OSt.ok0 m) rfl (fun H' h => hR H' h.tail.tail.tail) h256 (by rw [hpre]; exact hs) (fun H' h => ?_)
    simp -implicitDefEqProofs -dsimp (disch := omega) only [go_sem, dec_t, dec_f, ]
    exact h1 _ H' h.tail.tail
def caugC : Cd := match file_caught_1.body with | .recov _ c => c | _ => .skip
theorem rec17 {P : Prog} (hp : HasFw P) : recOf P 207 = some (file_caught_1, 4, caugC) := by unfold recOf; rw [hp.h_file_caught_1]; rfl
theorem rec17_fault {c : Nat} {x : V} {e : Int} (hs : Hs H (Cel c [x] :: R)) {K : Heap → Prop} (hK : ∀ H', Hs H' (Cel c [.int .i64 e] :: R) → K H') : wpC (Call P) caugC (finR [] K) ⟨(4, flt17 e) :: frame0 0 [.ptr (some (c, 0))], []⟩ H := by
  unfold caugC file_caught_1 flt17
  have g := hs.alloc (l := [.int .i64 e])
  have w := wr_s (Hs.p1 g).cel 0
  have g2 := ((Hs.p1 g).put (l' := [.int .i64 e])).tail2
  have r := rd_s g.cel
  simp -implicitDefEqProofs -dsimp (disch := omega) only [go_sem, dec_t, dec_f, frame0, w]
  exact hK _ g2
set_option maxHeartbeats 1000000 in
theorem segs1_ct (hp : HasFw P) (hfs : HasFs P) (hg : HasSeg P) (hb : HasBits P) {fvb lc : Nat} {fb fo fc : Nat} {ss : List Sg} {f : List Nat} {rnd : Bool} {e : Int} {x : V} (hM : ∀ s ∈ ss, May s) (hOk : ∀ s ∈ ss, s.Ok)
    (hf : f = [66, 85, 82, 1, if rnd then 1 else 0, pgs ss] ++ rawB rnd ss) (hpg : pgs ss ≤ 64) (hlen : f.length ≤ 100000000000000) (hn : ss.length ≤ 100000) (hE : firstE (pgs ss) ⟨0, 0, false, []⟩ ss = some e) (hR : ∀ H', Hs H' R → Arr H' (.sl (some (fb, fo)) f.length fc 1) 1 f.length (u8s f)) (h256 : ∀ b ∈ f, b < 256)
    (hs : Hs H (Cel fvb [.sl (some (fb, fo)) f.length fc 1] :: Cel lc [.sl none 0 0 0] :: R)) (h1 : ∀ y H', Hs H' (Cel lc [y] :: R) → Q (.pan (flt17 e)) H') : Call P 235 [.ptr (some (fvb, 0)), .ptr (some (lc, 0)), x] H Q := by
  refine call_of hfs.h_file_Segments_1 rfl ?_
  have r1 := rd_s hs.cel
  have h2 : ∀ b ∈ rawB rnd ss, b < 256 := fun b hb => h256 b (by rw [hf]; exact List.mem_append_right _ hb)
  have hlr : (rawB rnd ss).length ≤ 100000000000000 := by have := congrArg List.length hf; rw [List.length_append] at this; omega
  simp -implicitDefEqProofs -dsimp (disch := omega) only [go_sem, dec_t, dec_f, r1]
  subst hf
  refine opened_ct hp hb hpg h2 (fun H' h => hR H' h.tail.tail) hlr hs fun r rb H2 g2 => ?_
  simp -implicitDefEqProofs -dsimp (disch := omega) only [go_sem, dec_t, dec_f, ]
  refine call_of hp.h_file_reader_segments rfl ?_
  have g3 := g2.alloc (l := [.ptr (some (rb, 0))])
  simp -implicitDefEqProofs -dsimp (disch := omega) only [go_sem, dec_t, dec_f, ]
  refine rangeF_pan rfl ?_
  have g4 := g3.onew (x := .dfb)
  have g5 := g4.onew (x := .lp 237 [(1, .ptr (some (lc, 0)))] 0 none)
  rw [next_new] at g5
  have g6 := Hs.perm g5 (L' := MpA r [] :: Cel rb (ord3 (.sl (some (fb, fo)) ([66, 85, 82, 1, if rnd then 1 else 0, pgs ss] ++ rawB rnd ss).length fc 1) (.int .i64 6) (.bool rnd) (pgs ss) ⟨0, 0, false, []⟩ r) :: Cel H2.next [.ptr (some (rb, 0))] :: ObA ((H2.new (.cells [.ptr (some (rb, 0))] true)).next + 1) (.lp 237 [(1, .ptr (some (lc, 0)))] 0 none) :: Cel lc [.sl none 0 0 0] :: ObA (H2.new (.cells [.ptr (some (rb, 0))] true)).next .dfb :: Cel fvb [.sl (some (fb, fo)) ([66, 85, 82, 1, if rnd then 1 else 0, pgs ss] ++ rawB rnd ss).length fc 1] :: R) (by
    classical
    refine List.perm_iff_count.2 fun A => ?_
    simp only [List.count_cons]
    ac_rfl)
  refine segsF_ct hp hfs hg hb hM hOk rfl rfl hlen hn (by omega) hE (fun H' h => hR H' h.tail.tail) h256 rfl g6 fun y H' h => ?_
  show fin P false [] Q (.pan (flt17 e)) ⟨_, [(210, [.ptr (some (_, 0))])]⟩ H'
  refine ⟨(fun k => by cases k), ?_⟩
  have hrec : recOf P 210 = none := by unfold recOf; rw [hfs.h_shut]; rfl
  simp only [evP, hrec]
  exact ⟨by simp [ndOf, hfs.h_shut, cdShut], shut_ct hfs.h_shut (Hs.p1 h).oba (h1 y _ (((Hs.p1 h).oput (y := .dead)).tail).tail2)⟩
set_option maxHeartbeats 1000000 in
theorem caught_ct (hp : HasFw P) {g : Nat} {caps : List V} {e : Int} {R' : V → List As} (hs : Hs H R) (hc : ∀ A H1, Hs H1 (A :: R) → ∀ Q1 : Out → Heap → Prop, (∀ y H', Hs H' (A :: R' y) → Q1 (.pan (flt17 e)) H') → Call P g caps H1 Q1) (hQ : ∀ y H', Hs H' (R' y) → Q (.ret (.int .i64 e)) H') : Call P 204 [.fn g [] caps] H Q := by
  refine call_of hp.h_file_caught rfl ?_
  have g1 := hs.alloc (l := [.int .i64 0])
  simp -implicitDefEqProofs -dsimp (disch := omega) only [go_sem, dec_t, dec_f, ]
  refine hc _ _ g1 _ fun y H2 g2 => ?_
  simp -implicitDefEqProofs -dsimp (disch := omega) only [go_sem, dec_t, dec_f, ]
  refine fin_pR (rec17 hp) rfl (rec17_fault g2 fun H3 g3 => ?_)
  have r3 := rd_s g3.cel
  simp -implicitDefEqProofs -dsimp (disch := omega) only [go_sem, dec_t, dec_f, r3]
  exact hQ y _ g3.tail
theorem segments_ct (hp : HasFw P) (hfs : HasFs P) (hg : HasSeg P) (hb : HasBits P) {fb fo fc : Nat} {ss : List Sg} {f : List Nat} {rnd : Bool} {e : Int} (hM : ∀ s ∈ ss, May s) (hOk : ∀ s ∈ ss, s.Ok)
    (hf : f = [66, 85, 82, 1, if rnd then 1 else 0, pgs ss] ++ rawB rnd ss) (hpg : pgs ss ≤ 64) (hlen : f.length ≤ 100000000000000) (hn : ss.length ≤ 100000) (hE : firstE (pgs ss) ⟨0, 0, false, []⟩ ss = some e) (he : e ≠ 0) (hR : ∀ H', Hs H' R → Arr H' (.sl (some (fb, fo)) f.length fc 1) 1 f.length (u8s f)) (h256 : ∀ b ∈ f, b < 256)
    (hs : Hs H R) (hQ : ∀ H', Hs H' R → Q (.ret (.tup [.sl none 0 0 0, .bool false, .int .i64 e])) H') : Call P 236 [.sl (some (fb, fo)) f.length fc 1] H Q := by
  refine call_of hfs.h_file_Segments rfl ?_
  have g1 := ((hs.alloc (l := [.sl (some (fb, fo)) f.length fc 1])).alloc (l := [.sl none 0 0 0])).alloc (l := [.bool false])
  simp only [next_new] at g1
  simp -implicitDefEqProofs -dsimp (disch := omega) only [go_sem, dec_t, dec_f, ]
  generalize Heap.new _ _ = H1 at *
  generalize H.next + 1 + 1 = b3 at *
  generalize H.next + 1 = b2 at *
  generalize H.next = b1 at *
  refine caught_ct (e := e) (R' := fun y => Cel b2 [y] :: Cel b3 [.bool false] :: R) hp g1 (fun A H2 g2 Q1 k => ?_) (fun y H3 g3 => ?_)
  · refine segs1_ct (R := A :: Cel b3 [.bool false] :: R) hp hfs hg hb hM hOk hf hpg hlen hn hE (fun H' h => hR H' h.tail.tail) h256 (Hs.perm g2 ?_) (fun y H' h => k y H' (Hs.p1 h))
    classical
    refine List.perm_iff_count.2 fun A => ?_
    simp only [List.count_cons]
    ac_rfl
  · have w3 := wr_s g3.cel 0
    have g4 := g3.put (l' := [.sl none 0 0 0])
    have w4 := wr_s (Hs.p1 g4).cel 0
    have g5 := (Hs.p1 g4).put (l' := [.bool false])
    have r5 := rd_s g5.cel
    have r6 := rd_s (Hs.p1 g5).cel
    simp -implicitDefEqProofs -dsimp (disch := omega) only [go_sem, dec_t, dec_f, dec_t he, w3, w4, r5, r6]
    exact hQ _ g5.tail.tail
end
end Go.Ab
namespace Go.Ab
-- burinref16_refers: 168, parameters kind; loops 
-- burinref16_paged: 169, parameters kind; loops 
-- burinref16_May: 170, parameters ?; loops burinref16_May_l0 [1 ?, 5 ?]
-- burinref16_bit: 171, parameters ok; loops 
-- burinref16_Encode: 172, parameters ?; loops burinref16_Encode_l0 [1 ?, 4 ?, 5 ?, 6 ?]
-- burinref0_CopySegments: 174, parameters l; loops burinref0_CopySegments_l0 [0 l, 3 out, 4 i]
-- burinref0_CopyInts: 173, parameters a; loops 
/-- burin/burinref16.refers -/
def burinref16_refers : AFun := ⟨1, 9, true, [.t 2],
  .seq (.reg false [0] [⟨some 2, .mv (.c (.bool false)), none, 0, []⟩])
  (.seq (.reg false [2] [⟨some 3, .mv (.t 0), none, 0, []⟩,
    ⟨some 4, .bin .eql .num (.t 3) (.c (.int .i64 2)), none, 0, []⟩,
    ⟨some 5, .mv (.t 4), none, 0, []⟩,
    ⟨some 6, .mv (.t 0), some (5, false), 0, []⟩,
    ⟨some 7, .bin .eql .num (.t 6) (.c (.int .i64 3)), some (5, false), 0, []⟩,
    ⟨some 8, .pick (.t 5) (.c (.bool true)) (.t 7), none, 0, []⟩,
    ⟨some 2, .mv (.t 8), none, 0, []⟩])
  (.ret))⟩

/-- burin/burinref16.paged -/
def burinref16_paged : AFun := ⟨1, 9, true, [.t 2, .t 3],
  .seq (.reg false [0] [⟨some 2, .mv (.c (.int .i64 0)), none, 0, []⟩,
    ⟨some 3, .mv (.c (.int .i64 0)), none, 0, []⟩])
  (.seq (.seq (.reg false [4] [⟨some 4, .mv (.t 0), none, 0, []⟩])
  (.block 0 (.seq (.reg false [4, 5] [⟨some 6, .bin .eql .num (.t 4) (.c (.int .i64 2)), none, 0, []⟩,
    ⟨some 5, .mv (.t 6), none, 0, []⟩])
  (.cond (.t 5) (.seq (.reg false [2, 3] [⟨some 2, .mv (.c (.int .i64 0)), none, 0, []⟩,
    ⟨some 3, .mv (.c (.int .i64 64)), none, 0, []⟩])
  (.ret))
  (.seq (.reg false [7] [⟨some 8, .bin .eql .num (.t 4) (.c (.int .i64 7)), none, 0, []⟩,
    ⟨some 7, .mv (.t 8), none, 0, []⟩])
  (.cond (.t 7) (.seq (.reg false [2, 3] [⟨some 2, .mv (.c (.int .i64 0)), none, 0, []⟩,
    ⟨some 3, .mv (.c (.int .i64 0)), none, 0, []⟩])
  (.ret))
  (.skip)))))))
  (.seq (.reg false [2, 3] [⟨some 2, .mv (.c (.int .i64 1)), none, 0, []⟩,
    ⟨some 3, .mv (.c (.int .i64 64)), none, 0, []⟩])
  (.ret)))⟩

def burinref16_May_l0 : Cd := .seq (.seq (.reg false [1, 5, 80] [⟨some 76, .mv (.t 5), none, 0, []⟩,
    ⟨some 77, .fad 3 (.t 1), none, 0, []⟩,
    ⟨some 78, .load none (.t 77), none, 0, []⟩,
    ⟨some 79, .len none (.t 78), none, 0, []⟩,
    ⟨some 80, .bin .lss .num (.t 76) (.t 79), none, 0, []⟩])
  (.cond (.t 80) (.skip)
  (.exit 0)))
  (.seq (.block 1 (.seq (.reg true [1, 5, 116] [⟨some 83, .fad 3 (.t 1), none, 0, []⟩,
    ⟨some 84, .load none (.t 83), none, 1, []⟩,
    ⟨some 85, .mv (.t 5), none, 2, []⟩,
    ⟨some 86, .iad none 1 (.t 84) (.t 85), none, 3, []⟩,
    ⟨some 87, .load none (.t 86), none, 4, []⟩,
    ⟨some 88, .bin .lss .num (.t 87) (.c (.int .i64 0)), none, 5, []⟩,
    ⟨some 89, .mv (.t 88), none, 6, []⟩,
    ⟨some 90, .fad 3 (.t 1), some (89, false), 7, []⟩,
    ⟨some 91, .load none (.t 90), some (89, false), 8, []⟩,
    ⟨some 92, .mv (.t 5), some (89, false), 9, []⟩,
    ⟨some 93, .iad none 1 (.t 91) (.t 92), some (89, false), 10, []⟩,
    ⟨some 94, .load none (.t 93), some (89, false), 11, []⟩,
    ⟨some 95, .fad 0 (.t 1), some (89, false), 12, []⟩,
    ⟨some 96, .load none (.t 95), some (89, false), 13, []⟩,
    ⟨some 97, .bin .geq .num (.t 94) (.t 96), some (89, false), 14, []⟩,
    ⟨some 98, .pick (.t 89) (.c (.bool true)) (.t 97), none, 15, []⟩,
    ⟨some 99, .mv (.t 98), none, 16, []⟩,
    ⟨some 100, .mv (.t 5), some (99, false), 17, []⟩,
    ⟨some 101, .bin .gtr .num (.t 100) (.c (.int .i64 0)), some (99, false), 18, []⟩,
    ⟨some 102, .mv (.t 101), some (99, false), 19, []⟩,
    ⟨some 103, .fad 3 (.t 1), some (102, true), 20, []⟩,
    ⟨some 104, .load none (.t 103), some (102, true), 21, []⟩,
    ⟨some 105, .mv (.t 5), some (102, true), 22, []⟩,
    ⟨some 106, .iad none 1 (.t 104) (.t 105), some (102, true), 23, []⟩,
    ⟨some 107, .load none (.t 106), some (102, true), 24, []⟩,
    ⟨some 108, .fad 3 (.t 1), some (102, true), 25, []⟩,
    ⟨some 109, .load none (.t 108), some (102, true), 26, []⟩,
    ⟨some 110, .mv (.t 5), some (102, true), 27, []⟩,
    ⟨some 111, .bin .sub .num (.t 110) (.c (.int .i64 1)), some (102, true), 28, []⟩,
    ⟨some 112, .iad none 1 (.t 109) (.t 111), some (102, true), 29, []⟩,
    ⟨some 113, .load none (.t 112), some (102, true), 30, []⟩,
    ⟨some 114, .bin .leq .num (.t 107) (.t 113), some (102, true), 31, []⟩,
    ⟨some 115, .pick (.t 102) (.t 114) (.c (.bool false)), some (99, false), 32, []⟩,
    ⟨some 116, .pick (.t 99) (.c (.bool true)) (.t 115), none, 33, []⟩])
  (.cond (.t 116) (.seq (.reg false [2] [⟨some 2, .mv (.c (.bool false)), none, 0, []⟩])
  (.ret))
  (.skip))))
  (.reg false [1, 5] [⟨some 81, .mv (.t 5), none, 0, []⟩,
    ⟨some 82, .bin .add .num (.t 81) (.c (.int .i64 1)), none, 0, []⟩,
    ⟨some 5, .mv (.t 82), none, 0, []⟩]))
/-- burin/burinref16.May -/
def burinref16_May : AFun := ⟨1, 131, true, [.t 2],
  .seq (.reg false [1] [⟨some 1, .box 7 (.t 0), none, 0, []⟩,
    ⟨some 2, .mv (.c (.bool false)), none, 0, []⟩])
  (.seq (.seq (.reg false [1, 23] [⟨some 6, .fad 0 (.t 1), none, 0, []⟩,
    ⟨some 7, .load none (.t 6), none, 0, []⟩,
    ⟨some 8, .bin .lss .num (.t 7) (.c (.int .i64 0)), none, 0, []⟩,
    ⟨some 9, .mv (.t 8), none, 0, []⟩,
    ⟨some 10, .fad 0 (.t 1), some (9, false), 0, []⟩,
    ⟨some 11, .load none (.t 10), some (9, false), 0, []⟩,
    ⟨some 12, .bin .geq .num (.t 11) (.c (.int .i64 32768)), some (9, false), 0, []⟩,
    ⟨some 13, .pick (.t 9) (.c (.bool true)) (.t 12), none, 0, []⟩,
    ⟨some 14, .mv (.t 13), none, 0, []⟩,
    ⟨some 15, .fad 1 (.t 1), some (14, false), 0, []⟩,
    ⟨some 16, .load none (.t 15), some (14, false), 0, []⟩,
    ⟨some 17, .bin .lss .num (.t 16) (.c (.int .i64 1)), some (14, false), 0, []⟩,
    ⟨some 18, .pick (.t 14) (.c (.bool true)) (.t 17), none, 0, []⟩,
    ⟨some 19, .mv (.t 18), none, 0, []⟩,
    ⟨some 20, .fad 1 (.t 1), some (19, false), 0, []⟩,
    ⟨some 21, .load none (.t 20), some (19, false), 0, []⟩,
    ⟨some 22, .bin .gtr .num (.t 21) (.c (.int .i64 7)), some (19, false), 0, []⟩,
    ⟨some 23, .pick (.t 19) (.c (.bool true)) (.t 22), none, 0, []⟩])
  (.cond (.t 23) (.seq (.reg false [2] [⟨some 2, .mv (.c (.bool false)), none, 0, []⟩])
  (.ret))
  (.skip)))
  (.seq (.reg false [1, 3, 4] [⟨some 25, .fad 1 (.t 1), none, 0, []⟩,
    ⟨some 26, .load none (.t 25), none, 0, []⟩,
    ⟨some 27, .call (.f 169) [(.t 26)], none, 0, []⟩,
    ⟨some 24, .mv (.t 27), none, 0, []⟩,
    ⟨some 28, .ext 0 (.t 24), none, 0, []⟩,
    ⟨some 29, .ext 1 (.t 24), none, 0, []⟩,
    ⟨some 3, .mv (.t 28), none, 0, []⟩,
    ⟨some 4, .mv (.t 29), none, 0, []⟩])
  (.seq (.seq (.reg false [1, 75] [⟨some 30, .fad 2 (.t 1), none, 0, []⟩,
    ⟨some 31, .load none (.t 30), none, 0, []⟩,
    ⟨some 32, .mv (.t 3), none, 0, []⟩,
    ⟨some 33, .bin .lss .num (.t 31) (.t 32), none, 0, []⟩,
    ⟨some 34, .mv (.t 33), none, 0, []⟩,
    ⟨some 35, .fad 2 (.t 1), some (34, false), 0, []⟩,
    ⟨some 36, .load none (.t 35), some (34, false), 0, []⟩,
    ⟨some 37, .mv (.t 4), some (34, false), 0, []⟩,
    ⟨some 38, .bin .gtr .num (.t 36) (.t 37), some (34, false), 0, []⟩,
    ⟨some 39, .pick (.t 34) (.c (.bool true)) (.t 38), none, 0, []⟩,
    ⟨some 40, .mv (.t 39), none, 0, []⟩,
    ⟨some 41, .fad 3 (.t 1), some (40, false), 0, []⟩,
    ⟨some 42, .load none (.t 41), some (40, false), 0, []⟩,
    ⟨some 43, .len none (.t 42), some (40, false), 0, []⟩,
    ⟨some 44, .bin .gtr .num (.t 43) (.c (.int .i64 0)), some (40, false), 0, []⟩,
    ⟨some 45, .mv (.t 44), some (40, false), 0, []⟩,
    ⟨some 46, .fad 1 (.t 1), some (45, true), 0, []⟩,
    ⟨some 47, .load none (.t 46), some (45, true), 0, []⟩,
    ⟨some 48, .call (.f 168) [(.t 47)], some (45, true), 0, []⟩,
    ⟨some 49, .un .not (.t 48), some (45, true), 0, []⟩,
    ⟨some 50, .pick (.t 45) (.t 49) (.c (.bool false)), some (40, false), 0, []⟩,
    ⟨some 51, .pick (.t 40) (.c (.bool true)) (.t 50), none, 0, []⟩,
    ⟨some 52, .mv (.t 51), none, 0, []⟩,
    ⟨some 53, .fad 4 (.t 1), some (52, false), 0, []⟩,
    ⟨some 54, .load none (.t 53), some (52, false), 0, []⟩,
    ⟨some 55, .len none (.t 54), some (52, false), 0, []⟩,
    ⟨some 56, .fad 3 (.t 1), some (52, false), 0, []⟩,
    ⟨some 57, .load none (.t 56), some (52, false), 0, []⟩,
    ⟨some 58, .len none (.t 57), some (52, false), 0, []⟩,
    ⟨some 59, .bin .neq .num (.t 55) (.t 58), some (52, false), 0, []⟩,
    ⟨some 60, .pick (.t 52) (.c (.bool true)) (.t 59), none, 0, []⟩,
    ⟨some 61, .mv (.t 60), none, 0, []⟩,
    ⟨some 62, .fad 5 (.t 1), some (61, false), 0, []⟩,
    ⟨some 63, .load none (.t 62), some (61, false), 0, []⟩,
    ⟨some 64, .mv (.t 63), some (61, false), 0, []⟩,
    ⟨some 65, .fad 1 (.t 1), some (64, true), 0, []⟩,
    ⟨some 66, .load none (.t 65), some (64, true), 0, []⟩,
    ⟨some 67, .bin .neq .num (.t 66) (.c (.int .i64 2)), some (64, true), 0, []⟩,
    ⟨some 68, .pick (.t 64) (.t 67) (.c (.bool false)), some (61, false), 0, []⟩,
    ⟨some 69, .pick (.t 61) (.c (.bool true)) (.t 68), none, 0, []⟩,
    ⟨some 70, .mv (.t 69), none, 0, []⟩,
    ⟨some 71, .fad 6 (.t 1), some (70, false), 0, []⟩,
    ⟨some 72, .load none (.t 71), some (70, false), 0, []⟩,
    ⟨some 73, .len none (.t 72), some (70, false), 0, []⟩,
    ⟨some 74, .bin .gtr .num (.t 73) (.c (.int .i64 67108864)), some (70, false), 0, []⟩,
    ⟨some 75, .pick (.t 70) (.c (.bool true)) (.t 74), none, 0, []⟩])
  (.cond (.t 75) (.seq (.reg false [2] [⟨some 2, .mv (.c (.bool false)), none, 0, []⟩])
  (.ret))
  (.skip)))
  (.seq (.seq (.reg false [1, 5] [⟨some 5, .mv (.c (.int .i64 0)), none, 0, []⟩])
  (.block 0 (.loop [1, 5] burinref16_May_l0)))
  (.seq (.reg false [2] [⟨some 117, .fad 1 (.t 1), none, 0, []⟩,
    ⟨some 118, .load none (.t 117), none, 0, []⟩,
    ⟨some 119, .bin .neq .num (.t 118) (.c (.int .i64 6)), none, 0, []⟩,
    ⟨some 120, .mv (.t 119), none, 0, []⟩,
    ⟨some 121, .fad 1 (.t 1), some (120, true), 0, []⟩,
    ⟨some 122, .load none (.t 121), some (120, true), 0, []⟩,
    ⟨some 123, .bin .neq .num (.t 122) (.c (.int .i64 7)), some (120, true), 0, []⟩,
    ⟨some 124, .pick (.t 120) (.t 123) (.c (.bool false)), none, 0, []⟩,
    ⟨some 125, .mv (.t 124), none, 0, []⟩,
    ⟨some 126, .fad 6 (.t 1), some (125, false), 0, []⟩,
    ⟨some 127, .load none (.t 126), some (125, false), 0, []⟩,
    ⟨some 128, .len none (.t 127), some (125, false), 0, []⟩,
    ⟨some 129, .bin .eql .num (.t 128) (.c (.int .i64 0)), some (125, false), 0, []⟩,
    ⟨some 130, .pick (.t 125) (.c (.bool true)) (.t 129), none, 0, []⟩,
    ⟨some 2, .mv (.t 130), none, 0, []⟩])
  (.ret))))))⟩

/-- burin/burinref16.bit -/
def burinref16_bit : AFun := ⟨1, 4, true, [.t 2],
  .seq (.reg false [0] [⟨some 2, .mv (.c (.int .u64 0)), none, 0, []⟩])
  (.seq (.seq (.reg false [3] [⟨some 3, .mv (.t 0), none, 0, []⟩])
  (.cond (.t 3) (.seq (.reg false [2] [⟨some 2, .mv (.c (.int .u64 1)), none, 0, []⟩])
  (.ret))
  (.skip)))
  (.seq (.reg false [2] [⟨some 2, .mv (.c (.int .u64 0)), none, 0, []⟩])
  (.ret)))⟩

def burinref16_Encode_l0 : Cd := .seq (.seq (.reg false [1, 4, 5, 6, 38] [⟨some 34, .mv (.t 6), none, 0, []⟩,
    ⟨some 35, .fad 3 (.t 1), none, 0, []⟩,
    ⟨some 36, .load none (.t 35), none, 0, []⟩,
    ⟨some 37, .len none (.t 36), none, 0, []⟩,
    ⟨some 38, .bin .lss .num (.t 34) (.t 37), none, 0, []⟩])
  (.cond (.t 38) (.skip)
  (.exit 0)))
  (.seq (.block 1 (.seq (.reg false [1, 4, 5, 6] [⟨some 41, .mv (.t 4), none, 0, []⟩,
    ⟨some 42, .fad 3 (.t 1), none, 0, []⟩,
    ⟨some 43, .load none (.t 42), none, 0, []⟩,
    ⟨some 44, .mv (.t 6), none, 0, []⟩,
    ⟨some 45, .iad none 1 (.t 43) (.t 44), none, 0, []⟩,
    ⟨some 46, .load none (.t 45), none, 0, []⟩,
    ⟨some 47, .conv .u64 (.t 46), none, 0, []⟩,
    ⟨some 48, .call (.f 18) [(.t 47)], none, 0, []⟩,
    ⟨some 49, .append 1 1 (.t 41) (.t 48), none, 0, []⟩,
    ⟨some 4, .mv (.t 49), none, 0, []⟩])
  (.reg false [1, 4, 5, 6] [⟨some 50, .mv (.t 5), none, 0, []⟩,
    ⟨some 51, .fad 4 (.t 1), none, 0, []⟩,
    ⟨some 52, .load none (.t 51), none, 0, []⟩,
    ⟨some 53, .mv (.t 6), none, 0, []⟩,
    ⟨some 54, .iad none 1 (.t 52) (.t 53), none, 0, []⟩,
    ⟨some 55, .load none (.t 54), none, 0, []⟩,
    ⟨some 56, .call (.f 171) [(.t 55)], none, 0, []⟩,
    ⟨some 57, .call (.f 17) [(.t 50), (.t 56), (.c (.int .i64 1))], none, 0, []⟩])))
  (.reg false [1, 4, 5, 6] [⟨some 39, .mv (.t 6), none, 0, []⟩,
    ⟨some 40, .bin .add .num (.t 39) (.c (.int .i64 1)), none, 0, []⟩,
    ⟨some 6, .mv (.t 40), none, 0, []⟩]))
/-- burin/burinref16.Encode -/
def burinref16_Encode : AFun := ⟨1, 74, true, [.t 2, .t 3],
  .seq (.reg false [1] [⟨some 1, .box 7 (.t 0), none, 0, []⟩,
    ⟨some 2, .mv (.c (.sl none 0 0 0)), none, 0, []⟩,
    ⟨some 3, .mv (.c (.int .i64 0)), none, 0, []⟩])
  (.seq (.seq (.reg false [1, 9] [⟨some 7, .load (some 7) (.t 1), none, 0, []⟩,
    ⟨some 8, .call (.f 170) [(.t 7)], none, 0, []⟩,
    ⟨some 9, .un .not (.t 8), none, 0, []⟩])
  (.cond (.t 9) (.seq (.reg false [2, 3] [⟨some 2, .mv (.c (.sl none 0 0 0)), none, 0, []⟩,
    ⟨some 3, .mv (.c (.int .i64 161)), none, 0, []⟩])
  (.ret))
  (.skip)))
  (.seq (.reg true [1, 4] [⟨some 10, .fad 0 (.t 1), none, 0, []⟩,
    ⟨some 11, .load none (.t 10), none, 1, []⟩,
    ⟨some 12, .conv .u64 (.t 11), none, 2, []⟩,
    ⟨some 14, .fad 1 (.t 1), none, 4, []⟩,
    ⟨some 15, .load none (.t 14), none, 5, []⟩,
    ⟨some 16, .conv .u8 (.t 15), none, 6, []⟩,
    ⟨some 17, .bslice 1 [.int .u8 0] 1 [(0, (.t 16))], none, 7, []⟩,
    ⟨some 13, .call (.f 18) [(.t 12)], none, 3, [5, 7]⟩,
    ⟨some 18, .append 1 1 (.t 13) (.t 17), none, 8, []⟩,
    ⟨some 4, .mv (.t 18), none, 9, []⟩])
  (.seq (.reg false [1, 4] [⟨some 19, .mv (.t 4), none, 0, []⟩,
    ⟨some 20, .fad 2 (.t 1), none, 0, []⟩,
    ⟨some 21, .load none (.t 20), none, 0, []⟩,
    ⟨some 22, .conv .u64 (.t 21), none, 0, []⟩,
    ⟨some 23, .call (.f 18) [(.t 22)], none, 0, []⟩,
    ⟨some 24, .append 1 1 (.t 19) (.t 23), none, 0, []⟩,
    ⟨some 4, .mv (.t 24), none, 0, []⟩])
  (.seq (.reg false [1, 4] [⟨some 25, .mv (.t 4), none, 0, []⟩,
    ⟨some 26, .fad 3 (.t 1), none, 0, []⟩,
    ⟨some 27, .load none (.t 26), none, 0, []⟩,
    ⟨some 28, .len none (.t 27), none, 0, []⟩,
    ⟨some 29, .conv .u64 (.t 28), none, 0, []⟩,
    ⟨some 30, .call (.f 18) [(.t 29)], none, 0, []⟩,
    ⟨some 31, .append 1 1 (.t 25) (.t 30), none, 0, []⟩,
    ⟨some 4, .mv (.t 31), none, 0, []⟩])
  (.seq (.reg false [1, 4, 5] [⟨some 32, .build [.int .i64 0, .sl none 0 0 0] [(0, 1, (.c (.int .i64 67108864)))], none, 0, []⟩,
    ⟨some 33, .box 2 (.t 32), none, 0, []⟩,
    ⟨some 5, .mv (.t 33), none, 0, []⟩])
  (.seq (.seq (.reg false [1, 4, 5, 6] [⟨some 6, .mv (.c (.int .i64 0)), none, 0, []⟩])
  (.block 0 (.loop [1, 4, 5, 6] burinref16_Encode_l0)))
  (.seq (.reg false [1, 4, 5] [⟨some 58, .mv (.t 5), none, 0, []⟩,
    ⟨some 59, .fad 5 (.t 1), none, 0, []⟩,
    ⟨some 60, .load none (.t 59), none, 0, []⟩,
    ⟨some 61, .call (.f 171) [(.t 60)], none, 0, []⟩,
    ⟨some 62, .call (.f 17) [(.t 58), (.t 61), (.c (.int .i64 1))], none, 0, []⟩])
  (.seq (.reg false [1, 4] [⟨some 63, .mv (.t 4), none, 0, []⟩,
    ⟨some 64, .mv (.t 5), none, 0, []⟩,
    ⟨some 65, .call (.f 21) [(.t 64)], none, 0, []⟩,
    ⟨some 66, .append 1 1 (.t 63) (.t 65), none, 0, []⟩,
    ⟨some 4, .mv (.t 66), none, 0, []⟩])
  (.seq (.reg false [2, 3] [⟨some 67, .mv (.t 4), none, 0, []⟩,
    ⟨some 68, .fad 6 (.t 1), none, 0, []⟩,
    ⟨some 69, .load none (.t 68), none, 0, []⟩,
    ⟨some 70, .len none (.t 69), none, 0, []⟩,
    ⟨some 71, .conv .u64 (.t 70), none, 0, []⟩,
    ⟨some 72, .call (.f 18) [(.t 71)], none, 0, []⟩,
    ⟨some 73, .append 1 1 (.t 67) (.t 72), none, 0, []⟩,
    ⟨some 2, .mv (.t 73), none, 0, []⟩,
    ⟨some 3, .mv (.c (.int .i64 0)), none, 0, []⟩])
  (.ret))))))))))⟩

def burinref0_CopySegments_l0 : Cd := .seq (.seq (.reg false [0, 3, 4, 10] [⟨some 7, .mv (.t 4), none, 0, []⟩,
    ⟨some 8, .mv (.t 0), none, 0, []⟩,
    ⟨some 9, .len none (.t 8), none, 0, []⟩,
    ⟨some 10, .bin .lss .num (.t 7) (.t 9), none, 0, []⟩])
  (.cond (.t 10) (.skip)
  (.exit 0)))
  (.seq (.block 1 (.seq (.reg false [0, 3, 4, 5] [⟨some 13, .mv (.t 0), none, 0, []⟩,
    ⟨some 14, .mv (.t 4), none, 0, []⟩,
    ⟨some 15, .iad none 7 (.t 13) (.t 14), none, 0, []⟩,
    ⟨some 16, .load (some 7) (.t 15), none, 0, []⟩,
    ⟨some 5, .alloc [.int .i64 0, .int .i64 0, .int .i64 0, .sl none 0 0 0, .sl none 0 0 0, .bool false, .sl none 0 0 0], none, 0, []⟩,
    ⟨none, .store 7 (.t 5) (.t 16), none, 0, []⟩])
  (.seq (.reg false [0, 3, 4, 5, 6] [⟨some 6, .mv (.c (.sl none 0 0 0)), none, 0, []⟩])
  (.seq (.reg false [0, 3, 4, 5, 6] [⟨some 17, .fad 3 (.t 5), none, 0, []⟩,
    ⟨some 18, .load none (.t 17), none, 0, []⟩,
    ⟨some 19, .call (.f 173) [(.t 18)], none, 0, []⟩,
    ⟨some 20, .fad 3 (.t 5), none, 0, []⟩,
    ⟨none, .store 1 (.t 20) (.t 19), none, 0, []⟩])
  (.seq (.reg false [0, 3, 4, 5] [⟨some 21, .mv (.t 6), none, 0, []⟩,
    ⟨some 22, .fad 4 (.t 5), none, 0, []⟩,
    ⟨some 23, .load none (.t 22), none, 0, []⟩,
    ⟨some 24, .append 1 1 (.t 21) (.t 23), none, 0, []⟩,
    ⟨some 25, .fad 4 (.t 5), none, 0, []⟩,
    ⟨none, .store 1 (.t 25) (.t 24), none, 0, []⟩])
  (.seq (.reg false [0, 3, 4, 5] [⟨some 26, .fad 6 (.t 5), none, 0, []⟩,
    ⟨some 27, .load none (.t 26), none, 0, []⟩,
    ⟨some 28, .call (.f 27) [(.t 27)], none, 0, []⟩,
    ⟨some 29, .fad 6 (.t 5), none, 0, []⟩,
    ⟨none, .store 1 (.t 29) (.t 28), none, 0, []⟩])
  (.reg false [0, 3, 4] [⟨some 30, .mv (.t 3), none, 0, []⟩,
    ⟨some 31, .load (some 7) (.t 5), none, 0, []⟩,
    ⟨some 32, .bslice 7 [.int .i64 0, .int .i64 0, .int .i64 0, .sl none 0 0 0, .sl none 0 0 0, .bool false, .sl none 0 0 0] 1 [(0, (.t 31))], none, 0, []⟩,
    ⟨some 33, .append 7 104 (.t 30) (.t 32), none, 0, []⟩,
    ⟨some 3, .mv (.t 33), none, 0, []⟩])))))))
  (.reg false [0, 3, 4] [⟨some 11, .mv (.t 4), none, 0, []⟩,
    ⟨some 12, .bin .add .num (.t 11) (.c (.int .i64 1)), none, 0, []⟩,
    ⟨some 4, .mv (.t 12), none, 0, []⟩]))
/-- burin/burinref0.CopySegments -/
def burinref0_CopySegments : AFun := ⟨1, 35, true, [.t 2],
  .seq (.reg false [0] [⟨some 2, .mv (.c (.sl none 0 0 0)), none, 0, []⟩])
  (.seq (.reg false [0, 3] [⟨some 3, .mv (.c (.sl none 0 0 0)), none, 0, []⟩])
  (.seq (.seq (.reg false [0, 3, 4] [⟨some 4, .mv (.c (.int .i64 0)), none, 0, []⟩])
  (.block 0 (.loop [0, 3, 4] burinref0_CopySegments_l0)))
  (.seq (.reg false [2] [⟨some 34, .mv (.t 3), none, 0, []⟩,
    ⟨some 2, .mv (.t 34), none, 0, []⟩])
  (.ret))))⟩

/-- burin/burinref0.CopyInts -/
def burinref0_CopyInts : AFun := ⟨1, 7, true, [.t 2],
  .seq (.reg false [0] [⟨some 2, .mv (.c (.sl none 0 0 0)), none, 0, []⟩])
  (.seq (.reg false [0, 3] [⟨some 3, .mv (.c (.sl none 0 0 0)), none, 0, []⟩])
  (.seq (.reg false [2] [⟨some 4, .mv (.t 3), none, 0, []⟩,
    ⟨some 5, .mv (.t 0), none, 0, []⟩,
    ⟨some 6, .append 1 8 (.t 4) (.t 5), none, 0, []⟩,
    ⟨some 2, .mv (.t 6), none, 0, []⟩])
  (.ret)))⟩

/-- A program that has them. -/
structure HasRf16 (P : Prog) : Prop where
  h_burinref16_refers : P 168 = some burinref16_refers
  h_burinref16_paged : P 169 = some burinref16_paged
  h_burinref16_May : P 170 = some burinref16_May
  h_burinref16_bit : P 171 = some burinref16_bit
  h_burinref16_Encode : P 172 = some burinref16_Encode
  h_burinref0_CopySegments : P 174 = some burinref0_CopySegments
  h_burinref0_CopyInts : P 173 = some burinref0_CopyInts

end Go.Ab
namespace Go.Ab
section
variable {P : Prog} {H : Heap} {R : List As} {Q : Out → Heap → Prop}
theorem refers_ct (hp : HasRf16 P) {k : Int} (hQ : Q (.ret (.bool (decide (refsK k)))) H) : Call P 168 [.int .i64 k] H Q := by
  refine call_of hp.h_burinref16_refers rfl ?_
  by_cases k2 : k = 2
  · rw [dec_t (show refsK k from Or.inl k2)] at hQ
    simp -implicitDefEqProofs -dsimp (disch := omega) only [go_sem, dec_t, dec_f, ]
    exact hQ
  · simp -implicitDefEqProofs -dsimp (disch := omega) only [go_sem, dec_t, dec_f, ]
    rw [show decide (k = 3) = decide (refsK k) from decide_eq_decide.2 (by unfold refsK; omega)]
    exact hQ
def pgLo (k : Int) : Int := if k = 2 ∨ k = 7 then 0 else 1
def pgHi (k : Int) : Int := if k = 7 then 0 else 64
theorem pagedR_ct (hp : HasRf16 P) {k : Int} (hQ : Q (.ret (.tup [.int .i64 (pgLo k), .int .i64 (pgHi k)])) H) : Call P 169 [.int .i64 k] H Q := by
  refine call_of hp.h_burinref16_paged rfl ?_
  unfold pgLo pgHi at hQ
  by_cases k2 : k = 2
  · rw [if_pos (by omega), if_neg (by omega)] at hQ
    simp -implicitDefEqProofs -dsimp (disch := omega) only [go_sem, dec_t, dec_f, ]
    exact hQ
  · by_cases k7 : k = 7
    · rw [if_pos (by omega), if_pos (by omega)] at hQ
      simp -implicitDefEqProofs -dsimp (disch := omega) only [go_sem, dec_t, dec_f, ]
      exact hQ
    · rw [if_neg (by omega), if_neg (by omega)] at hQ
      simp -implicitDefEqProofs -dsimp (disch := omega) only [go_sem, dec_t, dec_f, ]
      exact hQ
theorem bitR_ct (hp : HasRf16 P) {b : Bool} (hQ : Q (.ret (.int .u64 (b.toNat : Nat))) H) : Call P 171 [.bool b] H Q := by
  refine call_of hp.h_burinref16_bit rfl ?_
  cases b
  · simp -implicitDefEqProofs -dsimp (disch := omega) only [go_sem, dec_t, dec_f, ]
    exact hQ
  · simp -implicitDefEqProofs -dsimp (disch := omega) only [go_sem, dec_t, dec_f, ]
    exact hQ
def myF (b : Nat) (x : Nat × Int) : Fr := ⟨[(1, .ptr (some (b, 0))), (5, .int .i64 (x.1 : Nat))], []⟩
set_option maxHeartbeats 1000000 in
theorem may_loop {b1 : Nat} {v va vb vc vd : V} {l : List Int} {num : Int} (hr : Arr H v 1 l.length (i64s l)) (hl : l.length ≤ 140737488355328) {ve : V} (hc : H.get b1 = .cells [.int .i64 num, va, vb, v, vc, vd, ve] true) {Qp : Post} {s' t'}
    (h1 : incrF num (-1) l = true → ∀ ex, Qp (.exit 0) ⟨(1, .ptr (some (b1, 0))) :: ex, []⟩ H) (h2 : incrF num (-1) l = false → ∀ ex, Qp .ret ⟨(2, .bool false) :: ex, []⟩ H) :
    loopL (Call P) [1, 5] burinref16_May_l0 Qp s' t' (myF b1 (0, -1)) H := by
  refine loop_dec (σ := Nat × Int) (fun x => l.length - x.1) (myF b1) (fun x H' => H' = H ∧ x.1 ≤ l.length ∧ incrF num x.2 (l.drop x.1) = incrF num (-1) l ∧ -1 ≤ x.2 ∧ (x.1 = 0 → x.2 = -1) ∧ (∀ j, x.1 = j + 1 → l[j]? = some x.2)) (fun x H' K ok hn hx hy => ?_) (0, -1) H ⟨rfl, Nat.zero_le _, rfl, Int.le_refl _, fun _ => rfl, fun j h => nomatch h⟩
  obtain ⟨i, a⟩ := x
  obtain ⟨rfl, hi, hin, ha, h0, hj⟩ := ok
  dsimp only at hi hin hn ha h0 hj
  have rc := rd_s hc
  obtain ⟨av, ac, ae, hvs⟩ := hr.shape
  unfold myF
  by_cases hlt : i < l.length
  · obtain ⟨b, o, c, rfl⟩ := hr.at0 (by omega)
    clear hvs
    have rl := hr.rd1 hlt
    have hd := incr_drop (b := num) (a := a) hlt
    rw [List.getElem?_eq_getElem (by simpa [i64s] using hlt)] at rl
    simp only [i64s, List.getElem_map] at rl
    have hn := hn (i + 1, l[i]) H'
    dsimp only at hn
    have hgi : l[i]? = some l[i] := List.getElem?_eq_getElem hlt
    have hret : incrF num (-1) l = false → ∀ ex, K .ret ⟨(2, .bool false) :: ex, []⟩ H' := fun k ex => by rw [hy]; exact h2 k ex
    generalize l[i] = n at *
    rcases Nat.eq_zero_or_pos i with hi0 | hi0
    · subst hi0
      have := h0 rfl
      subst this
      rw [Nat.add_zero] at rl
      rcases (show n < 0 ∨ 0 ≤ n ∧ num ≤ n ∨ 0 ≤ n ∧ n < num by omega) with q | ⟨q, q2⟩ | ⟨q, q2⟩
      · simp -implicitDefEqProofs -dsimp (disch := omega) only [go_sem, dec_t, dec_f, burinref16_May_l0, rc, Int.toNat_natCast, Nat.mul_one, rl]
        exact hret (by rw [← hin, hd, dec_f (by omega)]; rfl) _
      · simp -implicitDefEqProofs -dsimp (disch := omega) only [go_sem, dec_t, dec_f, burinref16_May_l0, rc, Int.toNat_natCast, Nat.mul_one, rl]
        exact hret (by rw [← hin, hd, dec_t (show (-1 : Int) < n by omega), dec_f (show ¬ n < num by omega)]; rfl) _
      · simp -implicitDefEqProofs -dsimp (disch := omega) only [go_sem, dec_t, dec_f, burinref16_May_l0, rc, Int.toNat_natCast, Nat.mul_one, rl, w64, cadd1]
        refine hn (by omega) ⟨rfl, by omega, ?_, by omega, (fun h => by omega), (fun j hj => by rw [show j = 0 by omega]; exact hgi)⟩
        rw [← hin, hd, dec_t (show (-1 : Int) < n by omega), dec_t q2]; rfl
    · obtain ⟨j, rfl⟩ : ∃ j, i = j + 1 := ⟨i - 1, by omega⟩
      have hjj := hj j rfl
      have rj := hr.rd1 (i := j) (by omega)
      rw [i64s, List.getElem?_map, hjj, Option.map_some] at rj
      have ej : ((j + 1 : Nat) : Int) - 1 = (j : Nat) := by omega
      rcases (show n < 0 ∨ 0 ≤ n ∧ num ≤ n ∨ 0 ≤ n ∧ n < num ∧ n ≤ a ∨ 0 ≤ n ∧ n < num ∧ a < n by omega) with q | ⟨q, q2⟩ | ⟨q, q2, q3⟩ | ⟨q, q2, q3⟩
      · simp -implicitDefEqProofs -dsimp (disch := omega) only [go_sem, dec_t, dec_f, burinref16_May_l0, rc, Int.toNat_natCast, Nat.mul_one, rl]
        refine hret ?_ _
        rw [← hin, hd]
        rcases (show n ≤ a ∨ a < n by omega) with k | k
        · rw [dec_f (by omega)]; rfl
        · omega
      · simp -implicitDefEqProofs -dsimp (disch := omega) only [go_sem, dec_t, dec_f, burinref16_May_l0, rc, Int.toNat_natCast, Nat.mul_one, rl]
        refine hret ?_ _
        rw [← hin, hd, dec_f (show ¬ n < num by omega)]
        simp
      · simp -implicitDefEqProofs -dsimp (disch := omega) only [go_sem, dec_t, dec_f, burinref16_May_l0, rc, Int.toNat_natCast, Nat.mul_one, rl, w64, ej, rj]
        exact hret (by rw [← hin, hd, dec_f (by omega)]; rfl) _
      · simp -implicitDefEqProofs -dsimp (disch := omega) only [go_sem, dec_t, dec_f, burinref16_May_l0, rc, Int.toNat_natCast, Nat.mul_one, rl, w64, ej, rj, cadd1]
        refine hn (by omega) ⟨rfl, by omega, ?_, by omega, (fun h => by omega), (fun k hk => by rw [show k = j + 1 by omega]; exact hgi)⟩
        rw [← hin, hd, dec_t q3, dec_t q2]; rfl
  · have hi' : i = l.length := by omega
    subst hi'
    rw [List.drop_length, incrF] at hin
    rw [hvs] at rc
    simp -implicitDefEqProofs -dsimp (disch := omega) only [go_sem, dec_t, dec_f, burinref16_May_l0, rc]
    rw [hx]
    exact h1 hin.symm _
set_option maxHeartbeats 2000000 in
theorem mayR_ct (hp : HasRf16 P) {v1 v2 v3 : V} {s : Sg} (h : SgR H v1 v2 v3 s) (hQ : ∀ H', Same (fun _ => False) H H' → Q (.ret (.bool (mayB s))) H') : Call P 170 [.agg (s.cells v1 v2 v3)] H Q := by
  obtain ⟨num, kind, page, refs, keep, stay, data⟩ := s
  obtain ⟨hr, hk, hd, ho⟩ := h
  dsimp only at hr hk hd
  obtain ⟨a1, c1, e1, rfl⟩ := hr.shape
  obtain ⟨a2, c2, e2, rfl⟩ := hk.shape
  obtain ⟨a3, c3, e3, rfl⟩ := hd.shape
  have l1 := ho.l1
  have l2 := ho.l2
  have l3 := ho.l3
  dsimp only at l1 l2 l3
  refine call_of hp.h_burinref16_May rfl ?_
  have g1 := (Hs.start H).alloc (l := [.int .i64 num, .int .i64 kind, .int .i64 page, .sl a1 refs.length c1 e1, .sl a2 keep.length c2 e2, .bool stay, .sl a3 data.length c3 e3])
  have r1 := rd_s g1.cel
  have cc := g1.cel
  have sm := g1.tail.base
  have hrr := hr.same sm fun _ _ h => h
  unfold Sg.cells
  have fl := fun (k : ¬ May ⟨num, kind, page, refs, keep, stay, data⟩) => (show Q (.ret (.bool false)) _ from by rw [← mayB_f k]; exact hQ _ sm)
  have tr := fun (k : May ⟨num, kind, page, refs, keep, stay, data⟩) => (show Q (.ret (.bool true)) _ from by rw [← mayB_t k]; exact hQ _ sm)
  have n0 := fun m : May ⟨num, kind, page, refs, keep, stay, data⟩ => m.n0
  have n1 := fun m : May ⟨num, kind, page, refs, keep, stay, data⟩ => m.n1
  have nk := fun m : May ⟨num, kind, page, refs, keep, stay, data⟩ => m.kind
  have np := fun m : May ⟨num, kind, page, refs, keep, stay, data⟩ => m.page
  have nkp := fun m : May ⟨num, kind, page, refs, keep, stay, data⟩ => m.keep
  have nr := fun m : May ⟨num, kind, page, refs, keep, stay, data⟩ => m.refs
  have ns := fun m : May ⟨num, kind, page, refs, keep, stay, data⟩ => m.stay
  have nd := fun m : May ⟨num, kind, page, refs, keep, stay, data⟩ => m.data
  have nm := fun m : May ⟨num, kind, page, refs, keep, stay, data⟩ => m.most
  have ni := fun m : May ⟨num, kind, page, refs, keep, stay, data⟩ => m.incr
  dsimp only at n0 n1 nk np nkp nr ns nd nm ni
  unfold kindOk at nk
  rcases (show num < 0 ∨ (0 ≤ num ∧ 32768 ≤ num) ∨ (0 ≤ num ∧ num < 32768 ∧ kind < 1) ∨ (0 ≤ num ∧ num < 32768 ∧ 1 ≤ kind ∧ 7 < kind) ∨ (0 ≤ num ∧ num < 32768 ∧ 1 ≤ kind ∧ kind ≤ 7) by omega) with q | ⟨q, q2⟩ | ⟨q, q2, q3⟩ | ⟨q, q2, q3, q4⟩ | ⟨q, q2, q3, q4⟩
  · simp -implicitDefEqProofs -dsimp (disch := omega) only [go_sem, dec_t, dec_f, r1]
    exact fl fun m => by have := n0 m; omega
  · simp -implicitDefEqProofs -dsimp (disch := omega) only [go_sem, dec_t, dec_f, r1]
    exact fl fun m => by have := n1 m; omega
  · simp -implicitDefEqProofs -dsimp (disch := omega) only [go_sem, dec_t, dec_f, r1]
    exact fl fun m => by have := nk m; omega
  · simp -implicitDefEqProofs -dsimp (disch := omega) only [go_sem, dec_t, dec_f, r1]
    exact fl fun m => by have := nk m; omega
  simp -implicitDefEqProofs -dsimp (disch := omega) only [go_sem, dec_t, dec_f, r1]
  refine pagedR_ct hp ?_
  have pp : pagedP (pageK kind) page ↔ pgLo kind ≤ page ∧ page ≤ pgHi kind := by
    rcases (show kind = 7 ∨ kind = 2 ∨ (kind ≠ 7 ∧ kind ≠ 2) by omega) with rfl | rfl | ⟨k1, k2⟩
    · rw [show pageK 7 = 0 from rfl, show pgLo 7 = 0 from rfl, show pgHi 7 = 0 from rfl]; unfold pagedP; omega
    · rw [show pageK 2 = 1 from rfl, show pgLo 2 = 0 from rfl, show pgHi 2 = 64 from rfl]; unfold pagedP; omega
    · unfold pagedP pageK pgLo pgHi
      rw [if_neg k1, if_neg k2, if_neg k1, if_neg (by omega)]; omega
  by_cases ip : pgLo kind ≤ page ∧ page ≤ pgHi kind
  rotate_left
  · have no := fl fun m => ip (pp.1 (np m))
    rcases (show page < pgLo kind ∨ (pgLo kind ≤ page ∧ pgHi kind < page) by omega) with k | ⟨k, k2⟩
    · simp -implicitDefEqProofs -dsimp (disch := omega) only [go_sem, dec_t, dec_f, r1]
      exact no
    · simp -implicitDefEqProofs -dsimp (disch := omega) only [go_sem, dec_t, dec_f, r1]
      exact no
  obtain ⟨ip1, ip2⟩ := ip
  generalize pgLo kind = lo at *
  generalize pgHi kind = hi at *
  have lp := fun (k1 : 0 < refs.length → refsK kind) (k2 : keep.length = refs.length) (k3 : stay = true → kind = 2) (k4 : data.length ≤ 67108864) (ki : incrF num (-1) refs = true) (kd : 0 < data.length → dataK kind) => tr ⟨q, q2, ⟨q3, q4⟩, pp.2 ⟨ip1, ip2⟩, k2, k1, k3, kd, k4, ki⟩
  have lf := fun ki : incrF num (-1) refs = false => fl fun m => by have := ni m; rw [ki] at this; cases this
  clear tr np pp
  by_cases il : keep.length = refs.length
  rotate_left
  · have no := fl fun m => il (nkp m)
    by_cases z : 0 < refs.length
    · by_cases ir : refsK kind
      · simp -implicitDefEqProofs -dsimp (disch := omega) only [go_sem, dec_t, dec_f, r1]
        refine refers_ct hp ?_
        rw [dec_t ir]
        simp -implicitDefEqProofs -dsimp (disch := omega) only [go_sem, dec_t, dec_f, r1]
        exact no
      · simp -implicitDefEqProofs -dsimp (disch := omega) only [go_sem, dec_t, dec_f, r1]
        refine refers_ct hp ?_
        rw [dec_f ir]
        simp -implicitDefEqProofs -dsimp (disch := omega) only [go_sem, dec_t, dec_f, r1]
        exact no
    · simp -implicitDefEqProofs -dsimp (disch := omega) only [go_sem, dec_t, dec_f, r1]
      exact no
  by_cases ir : 0 < refs.length ∧ ¬ refsK kind
  · simp -implicitDefEqProofs -dsimp (disch := omega) only [go_sem, dec_t, dec_f, r1, ir.1]
    refine refers_ct hp ?_
    rw [dec_f ir.2]
    simp -implicitDefEqProofs -dsimp (disch := omega) only [go_sem, dec_t, dec_f, r1]
    exact fl fun m => ir.2 (nr m ir.1)
  have ir : 0 < refs.length → refsK kind := fun k => Classical.not_not.1 fun k2 => ir ⟨k, k2⟩
  have stp : ∀ {G : Prop}, (refs.length = 0 → G) → (0 < refs.length → refsK kind → G) → G := fun a b => by
    rcases Nat.eq_zero_or_pos refs.length with z | z
    · exact a z
    · exact b z (ir z)
  by_cases is : stay = true ∧ kind ≠ 2
  · obtain ⟨rfl, is⟩ := is
    have no := fl fun m => is (ns m rfl)
    refine stp (fun z => ?_) fun z z2 => ?_
    · simp -implicitDefEqProofs -dsimp (disch := omega) only [go_sem, dec_t, dec_f, r1]
      exact no
    · simp -implicitDefEqProofs -dsimp (disch := omega) only [go_sem, dec_t, dec_f, r1]
      refine refers_ct hp ?_
      rw [dec_t z2]
      simp -implicitDefEqProofs -dsimp (disch := omega) only [go_sem, dec_t, dec_f, r1]
      exact no
  have is : stay = true → kind = 2 := fun k => Classical.not_not.1 fun k2 => is ⟨k, k2⟩
  have lend : incrF num (-1) refs = true → data.length ≤ 67108864 → (0 < data.length → dataK kind) → Q (.ret (.bool true)) _ := fun k1 k2 k3 => lp ir il is k2 k1 k3
  have ldf : (0 < data.length ∧ ¬ dataK kind) → Q (.ret (.bool false)) _ := fun kd => fl fun m => kd.2 (nd m kd.1)
  have lm : ¬ data.length ≤ 67108864 → Q (.ret (.bool false)) _ := fun k => fl fun m => k (nm m)
  clear lp fl
  by_cases im : data.length ≤ 67108864
  rotate_left
  · have no := lm im
    refine stp (fun z => ?_) fun z z2 => ?_
    · cases hst : stay
      · subst hst
        simp -implicitDefEqProofs -dsimp (disch := omega) only [go_sem, dec_t, dec_f, r1]
        exact no
      · have := is hst
        subst hst this
        simp -implicitDefEqProofs -dsimp (disch := omega) only [go_sem, dec_t, dec_f, r1]
        exact no
    · cases hst : stay
      · subst hst
        simp -implicitDefEqProofs -dsimp (disch := omega) only [go_sem, dec_t, dec_f, r1]
        refine refers_ct hp ?_
        rw [dec_t z2]
        simp -implicitDefEqProofs -dsimp (disch := omega) only [go_sem, dec_t, dec_f, r1]
        exact no
      · have := is hst
        subst hst this
        simp -implicitDefEqProofs -dsimp (disch := omega) only [go_sem, dec_t, dec_f, r1]
        refine refers_ct hp ?_
        rw [dec_t z2]
        simp -implicitDefEqProofs -dsimp (disch := omega) only [go_sem, dec_t, dec_f, r1]
        exact no
  have tail : ∀ {Qp : Post} {s' t'}, (incrF num (-1) refs = true → ∀ ex, Qp (.exit 0) ⟨(1, .ptr (some (H.next, 0))) :: ex, []⟩ _) → (incrF num (-1) refs = false → ∀ ex, Qp .ret ⟨(2, .bool false) :: ex, []⟩ _) → loopL (Call P) [1, 5] burinref16_May_l0 Qp s' t' (myF H.next (0, -1)) _ := fun a b => may_loop (va := .int .i64 kind) (vb := .int .i64 page) (vc := .sl a2 keep.length c2 e2) (vd := .bool stay) hrr l1 cc a b
  refine stp (fun z => ?_) fun z z2 => ?_
  · cases hst : stay
    · subst hst
      simp -implicitDefEqProofs -dsimp (disch := omega) only [go_sem, dec_t, dec_f, r1]
      refine tail (fun k ex => ?_) (fun k ex => ?_)
      · by_cases dk : dataK kind
        · have ld := lend k im fun _ => dk
          unfold dataK at dk
          simp -implicitDefEqProofs -dsimp (disch := omega) only [go_sem, dec_t, dec_f, r1]
          exact ld
        · unfold dataK at dk
          rcases (show kind = 6 ∨ kind = 7 by omega) with k6 | k6
          all_goals
            rcases (show data.length = 0 ∨ 0 < data.length by omega) with d0 | d0
            · have ld := lend k im fun h => by omega
              simp -implicitDefEqProofs -dsimp (disch := omega) only [go_sem, dec_t, dec_f, r1]
              exact ld
            · have ld := ldf ⟨d0, by unfold dataK; omega⟩
              simp -implicitDefEqProofs -dsimp (disch := omega) only [go_sem, dec_t, dec_f, r1]
              exact ld
      · simp -implicitDefEqProofs -dsimp (disch := omega) only [go_sem, dec_t, dec_f, ]
        exact lf k
    · have := is hst
      subst hst this
      simp -implicitDefEqProofs -dsimp (disch := omega) only [go_sem, dec_t, dec_f, r1]
      refine tail (fun k ex => ?_) (fun k ex => ?_)
      · have ld := lend k im fun _ => (by unfold dataK; omega)
        simp -implicitDefEqProofs -dsimp (disch := omega) only [go_sem, dec_t, dec_f, r1]
        exact ld
      · simp -implicitDefEqProofs -dsimp (disch := omega) only [go_sem, dec_t, dec_f, ]
        exact lf k
  · cases hst : stay
    · subst hst
      simp -implicitDefEqProofs -dsimp (disch := omega) only [go_sem, dec_t, dec_f, r1]
      refine refers_ct hp ?_
      rw [dec_t z2]
      simp -implicitDefEqProofs -dsimp (disch := omega) only [go_sem, dec_t, dec_f, r1]
      refine tail (fun k ex => ?_) (fun k ex => ?_)
      · by_cases dk : dataK kind
        · have ld := lend k im fun _ => dk
          unfold dataK at dk
          simp -implicitDefEqProofs -dsimp (disch := omega) only [go_sem, dec_t, dec_f, r1]
          exact ld
        · unfold dataK at dk
          rcases (show kind = 6 ∨ kind = 7 by omega) with k6 | k6
          all_goals
            rcases (show data.length = 0 ∨ 0 < data.length by omega) with d0 | d0
            · have ld := lend k im fun h => by omega
              simp -implicitDefEqProofs -dsimp (disch := omega) only [go_sem, dec_t, dec_f, r1]
              exact ld
            · have ld := ldf ⟨d0, by unfold dataK; omega⟩
              simp -implicitDefEqProofs -dsimp (disch := omega) only [go_sem, dec_t, dec_f, r1]
              exact ld
      · simp -implicitDefEqProofs -dsimp (disch := omega) only [go_sem, dec_t, dec_f, ]
        exact lf k
    · have := is hst
      subst hst this
      simp -implicitDefEqProofs -dsimp (disch := omega) only [go_sem, dec_t, dec_f, r1]
      refine refers_ct hp ?_
      rw [dec_t z2]
      simp -implicitDefEqProofs -dsimp (disch := omega) only [go_sem, dec_t, dec_f, r1]
      refine tail (fun k ex => ?_) (fun k ex => ?_)
      · have ld := lend k im fun _ => (by unfold dataK; omega)
        simp -implicitDefEqProofs -dsimp (disch := omega) only [go_sem, dec_t, dec_f, r1]
        exact ld
      · simp -implicitDefEqProofs -dsimp (disch := omega) only [go_sem, dec_t, dec_f, ]
        exact lf k
end
end Go.Ab
namespace Go.Ab
section
variable {P : Prog} {H : Heap} {R : List As} {Q : Out → Heap → Prop}
/-- Groups, laid behind a list. -/
theorem grp_on {v : V} {B : List Nat} {n : Nat} {v2 : V} {H2 : Heap} (hs : Hs H (Lst v 1 B.length (u8s B) :: R)) (hb : Bytes H2 v2 (groups n)) (sm : Same (fun _ => False) H H2) (hl : B.length ≤ 1000000) (hn : n < 18446744073709551616) :
    ∃ v3 H3, app H2 1 1 v v2 = some (v3, H3) ∧ Hs H3 (Lst v3 1 (B ++ groups n).length (u8s (B ++ groups n)) :: R) := by
  have hg := groups_le hn
  have h2 := hs.keep sm
  obtain ⟨v3, H3, ha, ho, s3, f3⟩ := app_own (eb := 1) h2.own (firsts_arr hb.arr) (by simp [u8s]) (u8s_one _) (by omega) (by omega)
  have h3 := h2.lst' s3 ho f3
  rw [show u8s B ++ u8s (groups n) = u8s (B ++ groups n) by simp [u8s], ← List.length_append] at h3
  exact ⟨v3, H3, ha, h3⟩
structure ErX where
  i : Nat
  v : V
def ErX.fr (b1 w : Nat) (x : ErX) : Fr := ⟨[(1, .ptr (some (b1, 0))), (4, x.v), (5, .ptr (some (w, 0))), (6, .int .i64 (x.i : Nat))], []⟩
theorem rfB_one (l : List Int) {i : Nat} (hi : i < l.length) : rfB (l.take (i + 1)) = rfB (l.take i) ++ groups l[i].toNat := rfB_snoc l hi
set_option maxHeartbeats 1000000 in
theorem encR_loop (hp : HasRf16 P) (hb : HasRefBits P) {b1 w : Nat} {va vb vd ve : V} {v1 v2 v0 : V} {num : Int} {refs : List Int} {keep : List Bool} {B : List Nat} (hR : ∀ H', Hs H' R → Arr H' v1 1 refs.length (i64s refs) ∧ Arr H' v2 1 keep.length (bools keep))
    (hk : keep.length = refs.length) (hl : refs.length ≤ 32768) (hn : ∀ n ∈ refs, 0 ≤ n ∧ n < 32768) (hB : B.length ≤ 1000)
    (hs : Hs H (Lst v0 1 B.length (u8s B) :: RWA w [] 67108864 :: Cel b1 [.int .i64 num, va, vb, v1, v2, vd, ve] :: R)) {Qp : Post} {s' t'}
    (h1 : ∀ v H' ex, Hs H' (Lst v 1 (B ++ rfB refs).length (u8s (B ++ rfB refs)) :: RWA w keep 67108864 :: Cel b1 [.int .i64 num, va, vb, v1, v2, vd, ve] :: R) → Qp (.exit 0) ⟨(1, .ptr (some (b1, 0))) :: (4, v) :: (5, .ptr (some (w, 0))) :: ex, []⟩ H') :
    loopL (Call P) [1, 4, 5, 6] burinref16_Encode_l0 Qp s' t' (ErX.fr b1 w ⟨0, v0⟩) H := by
  refine loop_dec (σ := ErX) (fun x => refs.length - x.i) (ErX.fr b1 w) (fun x H => x.i ≤ refs.length ∧ Hs H (Lst x.v 1 (B ++ rfB (refs.take x.i)).length (u8s (B ++ rfB (refs.take x.i))) :: RWA w (keep.take x.i) 67108864 :: Cel b1 [.int .i64 num, va, vb, v1, v2, vd, ve] :: R)) (fun x H K ok hn' hx hy => ?_) ⟨0, v0⟩ H ⟨Nat.zero_le _, by simpa [rfB] using hs⟩
  obtain ⟨i, v⟩ := x
  obtain ⟨hi, h⟩ := ok
  dsimp only at hi h hn'
  obtain ⟨ha, hkk⟩ := hR H h.tail.tail.tail
  have rc := rd_s (Hs.p2 h).cel
  obtain ⟨a1, c1, e1, hv1⟩ := ha.shape
  unfold ErX.fr
  by_cases hlt : i < refs.length
  · obtain ⟨b, o, c, rfl, rl⟩ := arr_int ha hlt
    clear hv1
    have hx1 := rfB_one refs hlt
    have hx2 := List.take_succ_eq_append_getElem (l := keep) (i := i) (by omega)
    have h3 := hn _ (List.getElem_mem hlt)
    have hB2 := rfB_len (l := refs.take i) fun m hm => hn m (List.mem_of_mem_take hm)
    rw [List.length_take, Nat.min_eq_left hi] at hB2
    generalize refs[i] = n at *
    obtain ⟨m, rfl⟩ : ∃ m : Nat, n = (m : Nat) := ⟨n.toNat, by omega⟩
    rw [Int.toNat_natCast] at hx1
    simp -implicitDefEqProofs -dsimp (disch := omega) only [go_sem, dec_t, dec_f, burinref16_Encode_l0, rc, Int.toNat_natCast, Nat.mul_one, rl, wu64]
    refine groups_ct hb (by omega) fun g H2 hb2 s2 f2 => ?_
    obtain ⟨v3, H3, ha3, g3⟩ := grp_on h hb2 s2 (by rw [List.length_append]; omega) (by omega)
    obtain ⟨ga, gc, ge, rfl⟩ := hb2.arr.shape
    have rc3 := rd_s (Hs.p2 g3).cel
    obtain ⟨_, hk3⟩ := hR H3 g3.tail.tail.tail
    obtain ⟨kb, ko, kc, hkv, rk⟩ := arr_bool hk3 (i := i) (by omega)
    rw [hkv] at rc3
    simp -implicitDefEqProofs -dsimp (disch := omega) only [go_sem, dec_t, dec_f, ha3, rc3, Int.toNat_natCast, Nat.mul_one, rk]
    generalize keep[i] = kb at *
    refine bitR_ct hp ?_
    simp -implicitDefEqProofs -dsimp (disch := omega) only [go_sem, dec_t, dec_f, ]
    refine rwPutA hb (Hs.p1 g3) (by cases kb <;> decide) (by decide) fun H4 g4 => ?_
    rw [wPut_bit kb (by rw [List.length_take]; omega)] at g4
    simp -implicitDefEqProofs -dsimp (disch := omega) only [go_sem, dec_t, dec_f, w64, cadd1]
    refine hn' ⟨i + 1, v3⟩ H4 (by dsimp only; omega) ⟨by dsimp only; omega, ?_⟩
    dsimp only
    rw [hx1, hx2, ← List.append_assoc]
    exact Hs.p1 g4
  · have : i = refs.length := by omega
    subst this
    rw [List.take_length, ← hk, List.take_length] at h
    rw [hv1] at rc
    simp -implicitDefEqProofs -dsimp (disch := omega) only [go_sem, dec_t, dec_f, burinref16_Encode_l0, rc]
    rw [hx]
    exact h1 _ H _ h
theorem toRWA {w most : Nat} (h : Hs H (Cel w [.int .i64 most, .sl none 0 0 0] :: R)) (hm : most ≤ 67108864) : Hs H (RWA w [] most :: R) :=
  h.step fun F ⟨h1, h2, h3⟩ => ⟨fun _ => False, F, Same.refl _ _, fun _ _ h => h.elim, ⟨.sl none 0 0 0, fun b => (h1 b).trans ⟨Or.inl, fun h => h.elim id False.elim⟩, ⟨h2, own_nil _ _, h3, fun h => h, by simp, hm⟩⟩, fun _ h => Or.inl h⟩
set_option maxHeartbeats 2000000 in
theorem encR_ct (hp : HasRf16 P) (hb : HasRefBits P) {v1 v2 v3 : V} {s : Sg} (hR : ∀ H', Hs H' R → SgR H' v1 v2 v3 s) (hs : Hs H R)
    (h1 : May s → ∀ v' H', Hs H' (Lst v' 1 (hdr s).length (u8s (hdr s)) :: R) → Q (.ret (.tup [v', .int .i64 0])) H') (h2 : ¬ May s → ∀ H', Hs H' R → Q (.ret (.tup [.sl none 0 0 0, .int .i64 161])) H') : Call P 172 [.agg (s.cells v1 v2 v3)] H Q := by
  refine call_of hp.h_burinref16_Encode rfl ?_
  have hr0 := hR H hs
  have hR' := fun H' h => hR H' h
  obtain ⟨a1, c1, e1, rfl⟩ := hr0.refs.shape
  obtain ⟨a2, c2, e2, rfl⟩ := hr0.keep.shape
  obtain ⟨a3, c3, e3, rfl⟩ := hr0.data.shape
  have g1 := hs.alloc (l := s.cells (.sl a1 s.refs.length c1 e1) (.sl a2 s.keep.length c2 e2) (.sl a3 s.data.length c3 e3))
  have cm := rd_m g1.cel 7
  have c0 := rd_s g1.cel
  obtain ⟨num, kind, page, refs, keep, stay, data⟩ := s
  unfold Sg.cells at g1 cm c0 ⊢
  dsimp only at *
  simp -implicitDefEqProofs -dsimp (disch := omega) only [go_sem, dec_t, dec_f, cm]
  generalize H.new _ = H1 at *
  generalize H.next = b1 at *
  have hr1 := hR' _ g1.tail
  refine mayR_ct hp hr1 fun H2 s2 => ?_
  have g2 := g1.keep s2
  by_cases hm : May ⟨num, kind, page, refs, keep, stay, data⟩
  rotate_left
  · rw [mayB_f hm]
    simp -implicitDefEqProofs -dsimp (disch := omega) only [go_sem, dec_t, dec_f, ]
    exact h2 hm _ g2.tail
  rw [mayB_t hm]
  have n0 := hm.n0
  have n1 := hm.n1
  have nk := hm.kind
  have npg := hm.page
  have nl := may_len hm
  have nkp := hm.keep
  have nin := hm.incr
  have nd := hm.most
  unfold kindOk at nk
  unfold pagedP at npg
  dsimp only at n0 n1 nk npg nl nkp nin nd
  have nrf : ∀ n ∈ refs, 0 ≤ n ∧ n < 32768 := fun n h => by have := incr_all nin n h; omega
  have npg2 : 0 ≤ page ∧ page ≤ 64 := by omega
  clear npg
  obtain ⟨kn, rfl⟩ : ∃ k : Nat, num = (k : Nat) := ⟨num.toNat, by omega⟩
  obtain ⟨kk, rfl⟩ : ∃ k : Nat, kind = (k : Nat) := ⟨kind.toNat, by omega⟩
  obtain ⟨kp, rfl⟩ : ∃ k : Nat, page = (k : Nat) := ⟨page.toNat, by omega⟩
  have c2' := rd_s g2.cel
  have lk := groups_le (n := kn) (by omega)
  have lp := groups_le (n := kp) (by omega)
  have lr := groups_le (n := refs.length) (by omega)
  have lrf := rfB_len nrf
  simp -implicitDefEqProofs -dsimp (disch := omega) only [go_sem, dec_t, dec_f, c2', wu64, wu8]
  have g3 := g2.alloc (l := [.int .u8 (kk : Nat)])
  have cb := g3.cel
  have c3' := rd_s (Hs.p1 g3).cel
  refine groups_ct hb (by omega) fun x1 H4 b4 s4 f4 => ?_
  have g4 := g3.lst s4 b4 f4
  have cb4 := (Hs.p1 g4).cel
  have c4 := rd_s (Hs.p2 g4).cel
  have fb := firsts_arr ((Hs.p1 g4).toLst (n := 1) (e := 1) rfl).own.arr
  obtain ⟨x2, H5, ha5, o5, s5, f5⟩ := app_own (eb := 1) g4.own fb rfl rfl (by omega) (by omega)
  have g5 := g4.lst' s5 o5 f5
  have g5 := (Hs.p1 g5).tail
  rw [show u8s (groups kn) ++ [V.int .u8 (kk : Nat)] = u8s (groups kn ++ [kk]) by simp [u8s], show (groups kn).length + 1 = (groups kn ++ [kk]).length by simp] at g5
  obtain ⟨xa, xc, xe, rfl⟩ := b4.arr.shape
  simp -implicitDefEqProofs -dsimp (disch := omega) only [go_sem, dec_t, dec_f, ]
  refine aft_intro (t := tag _) (by simp [rechecks, recheck, fresh, Fr.get, Fr.put, look, step, opd, c4, cb4, parts2, fillA, reps, over, V.cells]) ?_
  have c5 := rd_s (Hs.p1 g5).cel
  simp -implicitDefEqProofs -dsimp (disch := omega) only [go_sem, dec_t, dec_f, ha5, c5, wu64]
  refine groups_ct hb (by omega) fun x3 H6 b6 s6 f6 => ?_
  obtain ⟨x4, H7, ha7, g7⟩ := grp_on g5 b6 s6 (by rw [List.length_append, List.length_singleton]; omega) (by omega)
  obtain ⟨ya, yc, ye, rfl⟩ := b6.arr.shape
  have c7 := rd_s (Hs.p1 g7).cel
  simp -implicitDefEqProofs -dsimp (disch := omega) only [go_sem, dec_t, dec_f, ha7, c7, wu64]
  refine groups_ct hb (by omega) fun x5 H8 b8 s8 f8 => ?_
  obtain ⟨x6, H9, ha9, g9⟩ := grp_on g7 b8 s8 (by simp only [List.length_append, List.length_singleton]; omega) (by omega)
  obtain ⟨za, zc, ze, rfl⟩ := b8.arr.shape
  have g10 := toRWA (g9.alloc (l := [.int .i64 ((67108864 : Nat) : Int), .sl none 0 0 0])) (by omega)
  rw [show ((67108864 : Nat) : Int) = 67108864 from rfl] at g10
  simp -implicitDefEqProofs -dsimp (disch := omega) only [go_sem, dec_t, dec_f, ha9]
  refine encR_loop (va := .int .i64 (kk : Nat)) (vb := .int .i64 (kp : Nat)) (vd := .bool stay) (ve := .sl a3 data.length c3 e3) (v1 := .sl a1 refs.length c1 e1) (v2 := .sl a2 keep.length c2 e2) (num := (kn : Nat)) (refs := refs) (keep := keep) hp hb (fun H' h => ⟨(hR' H' h).refs, (hR' H' h).keep⟩) nkp (by omega) nrf (by simp only [List.length_append, List.length_singleton]; omega) (Hs.p1 g10) fun x7 H11 ex g11 => ?_
  have c11 := rd_s (Hs.p2 g11).cel
  simp -implicitDefEqProofs -dsimp (disch := omega) only [go_sem, dec_t, dec_f, c11]
  refine bitR_ct hp ?_
  simp -implicitDefEqProofs -dsimp (disch := omega) only [go_sem, dec_t, dec_f, ]
  refine rwPutA hb (Hs.p1 g11) (by cases stay <;> decide) (by decide) fun H12 g12 => ?_
  rw [wPut_bit stay (by omega)] at g12
  simp -implicitDefEqProofs -dsimp (disch := omega) only [go_sem, dec_t, dec_f, ]
  refine rwBytesA hb g12 fun x8 H13 g13 => ?_
  have g14 := Hs.p2 g13
  have hpk := pack_length (keep ++ [stay])
  rw [List.length_append, List.length_singleton] at hpk
  obtain ⟨x9, H15, ha15, o15, s15, f15⟩ := app_own (eb := 1) g14.own (firsts_arr (Hs.p1 g14).own.arr) (by simp [u8s]) (u8s_one _) (by omega) (by simp only [List.length_append, List.length_singleton]; omega)
  have g15 := g14.lst' s15 o15 f15
  have eA : groups kn ++ [kk] ++ groups kp ++ groups refs.length ++ rfB refs = hdA ⟨(kn : Nat), (kk : Nat), (kp : Nat), refs, keep, stay, data⟩ := by
    unfold hdA rfB; simp only [Int.toNat_natCast]
  rw [show u8s (groups kn ++ [kk] ++ groups kp ++ groups refs.length ++ rfB refs) ++ u8s (pack (keep ++ [stay])) = u8s (hdA ⟨(kn : Nat), (kk : Nat), (kp : Nat), refs, keep, stay, data⟩ ++ pack (keep ++ [stay])) by rw [← eA]; simp [u8s],
    show (groups kn ++ [kk] ++ groups kp ++ groups refs.length ++ rfB refs).length + (pack (keep ++ [stay])).length = (hdA ⟨(kn : Nat), (kk : Nat), (kp : Nat), refs, keep, stay, data⟩ ++ pack (keep ++ [stay])).length by rw [← eA]; simp only [List.length_append]] at g15
  have lA : (hdA ⟨(kn : Nat), (kk : Nat), (kp : Nat), refs, keep, stay, data⟩).length ≤ 400000 := by rw [← eA]; simp only [List.length_append, List.length_singleton]; omega
  obtain ⟨pa, pc, pe, rfl⟩ := (Hs.p1 g14).own.arr.shape
  have c15 := rd_s (Hs.p3 g15).cel
  simp -implicitDefEqProofs -dsimp (disch := omega) only [go_sem, dec_t, dec_f, ha15, c15, wu64]
  refine groups_ct hb (by omega) fun x10 H16 b16 s16 f16 => ?_
  obtain ⟨x11, H17, ha17, g17⟩ := grp_on g15 b16 s16 (by rw [List.length_append]; omega) (by omega)
  obtain ⟨qa, qc, qe, rfl⟩ := b16.arr.shape
  simp -implicitDefEqProofs -dsimp (disch := omega) only [go_sem, dec_t, dec_f, ha17]
  refine h1 hm x11 _ ?_
  unfold hdr
  exact (Hs.p1 (Hs.p1 (Hs.p1 g17).tail).tail).tail
end
end Go.Ab
namespace Go.Ab
section
variable {P : Prog} {H : Heap} {R : List As} {Q : Out → Heap → Prop}
theorem copyInts_ct (hp : HasRf16 P) {x : V} {l : List Int} (hx : Arr H x 1 l.length (i64s l)) (hl : l.length ≤ 1000000) (hs : Hs H R) (hQ : ∀ v H', Hs H' (Lst v 1 l.length (i64s l) :: R) → Q (.ret v) H') : Call P 173 [x] H Q := by
  refine call_of hp.h_burinref0_CopyInts rfl ?_
  obtain ⟨v', H', h1, h2, h3, h4⟩ := app_nil (H := H) (e := 1) (eb := 8) (firsts_arr hx) (by simp [i64s]) (by simp [i64s, one]) (by omega)
  simp -implicitDefEqProofs -dsimp (disch := omega) only [go_sem, dec_t, dec_f, h1]
  exact hQ v' H' (hs.lst h3 h2 h4)
end
end Go.Ab
namespace Go.Ab
-- burinlaw17_FileWrites: 234, parameters ?; loops burinlaw17_FileWrites_l0 [1 ?, 3 ?]; burinlaw17_FileWrites_l1 [1 ?, 3 ?, 4 ?, 5 ?]
-- burinlaw17_light: 233, parameters l; loops burinlaw17_light_l0 [0 l, 3 n, 4 i]
-- burinref0_EqSegments: 232, parameters a b; loops burinref0_EqSegments_l0 [0 a, 1 b, 5 i]
def burinlaw17_light_l0 : Cd := .seq (.seq (.reg false [0, 3, 4, 8] [⟨some 5, .mv (.t 4), none, 0, []⟩,
    ⟨some 6, .mv (.t 0), none, 0, []⟩,
    ⟨some 7, .len none (.t 6), none, 0, []⟩,
    ⟨some 8, .bin .lss .num (.t 5) (.t 7), none, 0, []⟩])
  (.cond (.t 8) (.skip)
  (.exit 0)))
  (.seq (.block 1 (.seq (.reg true [0, 3, 4] [⟨some 11, .mv (.t 3), none, 0, []⟩,
    ⟨some 12, .bin .add .num (.t 11) (.c (.int .i64 1)), none, 1, []⟩,
    ⟨some 13, .mv (.t 0), none, 2, []⟩,
    ⟨some 14, .mv (.t 4), none, 3, []⟩,
    ⟨some 15, .iad none 7 (.t 13) (.t 14), none, 4, []⟩,
    ⟨some 16, .fad 6 (.t 15), none, 5, []⟩,
    ⟨some 17, .load none (.t 16), none, 6, []⟩,
    ⟨some 18, .len none (.t 17), none, 7, []⟩,
    ⟨some 19, .bin .add .num (.t 12) (.t 18), none, 8, []⟩,
    ⟨some 20, .mv (.t 0), none, 9, []⟩,
    ⟨some 21, .mv (.t 4), none, 10, []⟩,
    ⟨some 22, .iad none 7 (.t 20) (.t 21), none, 11, []⟩,
    ⟨some 23, .fad 3 (.t 22), none, 12, []⟩,
    ⟨some 24, .load none (.t 23), none, 13, []⟩,
    ⟨some 25, .len none (.t 24), none, 14, []⟩,
    ⟨some 26, .bin .add .num (.t 19) (.t 25), none, 15, []⟩,
    ⟨some 3, .mv (.t 26), none, 16, []⟩])
  (.seq (.reg false [0, 3, 4, 28] [⟨some 27, .mv (.t 3), none, 0, []⟩,
    ⟨some 28, .bin .gtr .num (.t 27) (.c (.int .i64 20000)), none, 0, []⟩])
  (.cond (.t 28) (.seq (.reg false [2] [⟨some 2, .mv (.c (.bool false)), none, 0, []⟩])
  (.ret))
  (.skip)))))
  (.reg false [0, 3, 4] [⟨some 9, .mv (.t 4), none, 0, []⟩,
    ⟨some 10, .bin .add .num (.t 9) (.c (.int .i64 1)), none, 0, []⟩,
    ⟨some 4, .mv (.t 10), none, 0, []⟩]))
/-- burin/burinlaw17.light -/
def burinlaw17_light : AFun := ⟨1, 29, true, [.t 2],
  .seq (.reg false [0] [⟨some 2, .mv (.c (.bool false)), none, 0, []⟩])
  (.seq (.reg false [0, 3] [⟨some 3, .mv (.c (.int .i64 0)), none, 0, []⟩])
  (.seq (.seq (.reg false [0, 3, 4] [⟨some 4, .mv (.c (.int .i64 0)), none, 0, []⟩])
  (.block 0 (.loop [0, 3, 4] burinlaw17_light_l0)))
  (.seq (.reg false [2] [⟨some 2, .mv (.c (.bool true)), none, 0, []⟩])
  (.ret))))⟩

end Go.Ab
namespace Go.Ab
section
variable {P : Prog} {H : Heap} {R : List As} {Q : Out → Heap → Prop}
structure Lgt (l : List SgO) : Prop where
  len : l.length ≤ 20000
  ok : ∀ s ∈ ss l, s.refs.length ≤ 20000 ∧ s.data.length ≤ 20000
def lgF (v : V) (x : Nat × Nat) : Fr := ⟨[(0, v), (3, .int .i64 (x.2 : Nat)), (4, .int .i64 (x.1 : Nat))], []⟩
theorem light_ct (hg : P 233 = some burinlaw17_light) {v : V} {l : List SgO} (hv : FlR H v l) (hl : l.length ≤ 140737488355328) (hQ : ∀ b : Bool, (b = true → Lgt l) → Q (.ret (.bool b)) H) : Call P 233 [v] H Q := by
  refine call_of hg rfl ?_
  simp -implicitDefEqProofs -dsimp (disch := omega) only [go_sem, dec_t, dec_f, ]
  refine loop_dec (σ := Nat × Nat) (fun x => l.length - x.1) (lgF v) (fun x H' => H' = H ∧ x.1 ≤ l.length ∧ x.1 ≤ x.2 ∧ x.2 ≤ 20000 ∧ ∀ s ∈ (ss l).take x.1, s.refs.length ≤ 20000 ∧ s.data.length ≤ 20000) (fun x H' K ok hn hx hy => ?_) (0, 0) H ⟨rfl, Nat.zero_le _, Nat.le_refl _, by simp, by simp⟩
  obtain ⟨i, n⟩ := x
  obtain ⟨rfl, hi, hin, hn2, hall⟩ := ok
  dsimp only at hi hin hn2 hall hn
  unfold lgF
  by_cases hlt : i < l.length
  rotate_left
  · have : i = l.length := by omega
    subst this
    rw [List.take_of_length_le (by simp)] at hall
    obtain ⟨a, c, e, rfl⟩ := hv.arr.shape
    simp -implicitDefEqProofs -dsimp (disch := omega) only [go_sem, dec_t, dec_f, burinlaw17_light_l0]
    rw [hx]
    simp -implicitDefEqProofs -dsimp (disch := omega) only [go_sem, dec_t, dec_f, ]
    exact hQ true fun _ => ⟨by omega, hall⟩
  obtain ⟨vb, vo, vc, rfl, r7, rk, sok⟩ := hv.at hlt
  have ht : (ss l).take (i + 1) = (ss l).take i ++ [l[i].s] := by rw [List.take_succ_eq_append_getElem (by simpa using hlt), List.getElem_map]
  have r3 := rk 3 (by omega)
  have r6 := rk 6 (by omega)
  have hn := fun m => hn (i + 1, m) H' (by dsimp only; omega)
  dsimp only at hn
  rw [ht] at hn
  generalize l[i] = q at *
  obtain ⟨s, v1, v2, v3⟩ := q
  unfold SgO.cs at r3 r6
  unfold SgOk at sok
  dsimp only at r3 r6 sok hn
  obtain ⟨a1, z1, e1, hs1⟩ := sok.refs.shape
  obtain ⟨a3, z3, e3, hs3⟩ := sok.data.shape
  subst hs1 hs3
  rw [show ∀ u1 u2 u3, (s.cells u1 u2 u3)[3]? = some u1 from fun _ _ _ => rfl] at r3
  rw [show ∀ u1 u2 u3, (s.cells u1 u2 u3)[6]? = some u3 from fun _ _ _ => rfl] at r6
  have l1 := sok.ok.l1
  have l3 := sok.ok.l3
  have ek : (n : Int) + 1 + s.data.length + s.refs.length = ((n + 1 + s.data.length + s.refs.length : Nat) : Int) := by omega
  by_cases k : n + 1 + s.data.length + s.refs.length ≤ 20000
  · simp -implicitDefEqProofs -dsimp (disch := omega) only [go_sem, dec_t, dec_f, burinlaw17_light_l0, Int.toNat_natCast, r3, r6, w64, ek, cadd1]
    refine hn _ ⟨rfl, by omega, by omega, k, fun t ht' => ?_⟩
    rcases List.mem_append.1 ht' with h | h
    · exact hall t h
    · rw [List.mem_singleton.1 h]; omega
  · simp -implicitDefEqProofs -dsimp (disch := omega) only [go_sem, dec_t, dec_f, burinlaw17_light_l0, Int.toNat_natCast, r3, r6, w64, ek]
    rw [hy]
    simp -implicitDefEqProofs -dsimp (disch := omega) only [go_sem, dec_t, dec_f, ]
    exact hQ false fun h => by cases h
/-- A segment's lists, one's own. -/
def prt (o : SgO) : List As := [Lst o.v1 1 o.s.refs.length (i64s o.s.refs), Lst o.v2 1 o.s.keep.length (bools o.s.keep), Lst o.v3 1 o.s.data.length (u8s o.s.data)]
theorem flR_own {v : V} {l : List SgO} (hk : ∀ o ∈ l, o.s.Ok) {H' : Heap} (h : Hs H' (Lst v 7 l.length (sgCells l) :: (l.flatMap prt ++ R))) : FlR H' v l :=
  ⟨h.own.arr, fun o ho => by
    have hm : ∀ A ∈ prt o, A ∈ Lst v 7 l.length (sgCells l) :: (l.flatMap prt ++ R) := fun A hA => List.mem_cons_of_mem _ (List.mem_append_left _ (List.mem_flatMap.2 ⟨o, ho, hA⟩))
    exact ⟨(h.ownm (hm _ (by simp [prt]))).arr, (h.ownm (hm _ (by simp [prt]))).arr, (h.ownm (hm _ (by simp [prt]))).arr, hk o ho⟩⟩
def cpF (a : V) (x : Nat × V) : Fr := ⟨[(0, a), (3, x.2), (4, .int .i64 (x.1 : Nat))], []⟩
set_option maxHeartbeats 2000000 in
theorem copySegs_ct (hp : HasRf16 P) (hc : P 27 = some burinref0_Copy) {v : V} {l : List SgO} (lg : Lgt l) (hR : ∀ H', Hs H' R → FlR H' v l) (hs : Hs H R)
    (hQ : ∀ w l' H', ss l' = ss l → l'.length = l.length → (∀ o ∈ l', o.s.Ok) → Hs H' (Lst w 7 l'.length (sgCells l') :: (l'.flatMap prt ++ R)) → Q (.ret w) H') : Call P 174 [v] H Q := by
  refine call_of hp.h_burinref0_CopySegments rfl ?_
  have hln := lg.len
  simp -implicitDefEqProofs -dsimp (disch := omega) only [go_sem, dec_t, dec_f, ]
  refine loop_dec (σ := Nat × V) (fun x => l.length - x.1) (cpF v) (fun x H => ∃ l' : List SgO, x.1 ≤ l.length ∧ l'.length = x.1 ∧ ss l' = (ss l).take x.1 ∧ (∀ o ∈ l', o.s.Ok) ∧ Hs H (Lst x.2 7 l'.length (sgCells l') :: (l'.flatMap prt ++ R))) (fun x H K ok hn hx hy => ?_) (0, .sl none 0 0 0) H
    ⟨[], Nat.zero_le _, rfl, by simp, (fun _ h => nomatch h), hs.lst (Same.refl _ _) (Or.inl ⟨rfl, rfl, rfl⟩) fun b h => h.elim⟩
  obtain ⟨i, w⟩ := x
  obtain ⟨l', hi, hl', hss, hok, h⟩ := ok
  dsimp only at hi hl' hss h hn
  subst hl'
  unfold cpF
  by_cases hlt : l'.length < l.length
  rotate_left
  · have : l'.length = l.length := by omega
    rw [List.take_of_length_le (by simp; omega)] at hss
    obtain ⟨a, c, e, rfl⟩ := (hR H (Hs.cutl h.tail)).arr.shape
    simp -implicitDefEqProofs -dsimp (disch := omega) only [go_sem, dec_t, dec_f, burinref0_CopySegments_l0]
    rw [hx]
    simp -implicitDefEqProofs -dsimp (disch := omega) only [go_sem, dec_t, dec_f, ]
    exact hQ w l' H hss this hok h
  obtain ⟨vb, vo, vc, rfl, r7, rk, sok⟩ := (hR H (Hs.cutl h.tail)).at hlt
  have sokR : ∀ H', Hs H' R → SgOk H' l[l'.length] := fun H' h => (hR H' h).ok _ (List.getElem_mem hlt)
  have ht : (ss l).take (l'.length + 1) = (ss l).take l'.length ++ [l[l'.length].s] := by rw [List.take_succ_eq_append_getElem (by simpa using hlt), List.getElem_map]
  have hlg := lg.ok l[l'.length].s (List.mem_map.2 ⟨_, List.getElem_mem hlt, rfl⟩)
  generalize l[l'.length] = q at *
  obtain ⟨s, v1, v2, v3⟩ := q
  unfold SgO.cs at r7
  unfold SgOk at sok sokR
  dsimp only at r7 sok sokR ht hlg
  obtain ⟨a1, c1, e1, hv1⟩ := sok.refs.shape
  obtain ⟨a2, c2, e2, hv2⟩ := sok.keep.shape
  obtain ⟨a3, c3, e3, hv3⟩ := sok.data.shape
  subst hv1 hv2 hv3
  have sOk := sok.ok
  have l2 := sOk.l2
  obtain ⟨num, kind, page, refs, keep, stay, data⟩ := s
  unfold Sg.cells at *
  dsimp only at *
  have g1 := h.alloc (l := [.int .i64 num, .int .i64 kind, .int .i64 page, .sl a1 refs.length c1 e1, .sl a2 keep.length c2 e2, .bool stay, .sl a3 data.length c3 e3])
  have r1 := rd_s g1.cel
  simp -implicitDefEqProofs -dsimp (disch := omega) only [go_sem, dec_t, dec_f, burinref0_CopySegments_l0, Int.toNat_natCast, r7, r1]
  generalize H.new _ = H1 at *
  generalize H.next = b5 at *
  refine copyInts_ct hp (sokR H1 (Hs.cutl g1.tail.tail)).refs (by dsimp only; omega) g1 fun w1 H2 g2 => ?_
  have g2 := Hs.p1 g2
  obtain ⟨wa, wc, we, hw1⟩ := (Hs.p1 g2).own.arr.shape
  dsimp only at hw1 g2
  subst hw1
  have w3 := wr_s g2.cel 3
  have g3 := g2.put (l' := [.int .i64 num, .int .i64 kind, .int .i64 page, .sl wa refs.length wc we, .sl a2 keep.length c2 e2, .bool stay, .sl a3 data.length c3 e3])
  have r3 := rd_s g3.cel
  have hk3 := (sokR _ (Hs.cutl g3.tail.tail.tail)).keep
  obtain ⟨w2, H4, ha4, o4, s4, f4⟩ := app_nil (e := 1) (eb := 1) (firsts_arr hk3) (by simp [bools]) (by simp [bools, one]) (by dsimp only; omega)
  have g4 := g3.lst s4 o4 f4
  obtain ⟨xa, xc, xe, hw2⟩ := o4.arr.shape
  dsimp only at hw2 ha4 g4
  subst hw2
  have w4 := wr_s (Hs.p1 g4).cel 4
  have g5 := (Hs.p1 g4).put (l' := [.int .i64 num, .int .i64 kind, .int .i64 page, .sl wa refs.length wc we, .sl xa keep.length xc xe, .bool stay, .sl a3 data.length c3 e3])
  have r5 := rd_s g5.cel
  simp -implicitDefEqProofs -dsimp (disch := omega) only [go_sem, dec_t, dec_f, w3, r3, ha4, w4, r5]
  have hd5 := (sokR _ (Hs.cutl g5.tail.tail.tail.tail)).data
  refine copy_ct hc hd5 (by dsimp only; omega) fun w3' H6 b6 s6 f6 => ?_
  have g6 := g5.lst s6 b6 f6
  obtain ⟨ya, yc, ye, hw3⟩ := b6.arr.shape
  dsimp only at hw3 g6
  subst hw3
  have w6 := wr_s (Hs.p1 g6).cel 6
  have g7 := (Hs.p1 g6).put (l' := [.int .i64 num, .int .i64 kind, .int .i64 page, .sl wa refs.length wc we, .sl xa keep.length xc xe, .bool stay, .sl ya data.length yc ye])
  have r7' := rd_m g7.cel 7
  have own := (Hs.p4 g7).own
  obtain ⟨w9, H9, ha9, o9, s9, f9⟩ := app_oneT (e := 7) (eb := 104) (m := 1) (M := [.int .i64 num, .int .i64 kind, .int .i64 page, .sl wa refs.length wc we, .sl xa keep.length xc xe, .bool stay, .sl ya data.length yc ye]) own rfl rfl (by omega) (by omega)
  have g9 := (Hs.p4 g7).lst' s9 o9 f9
  rw [next_put] at ha9
  simp -implicitDefEqProofs -dsimp (disch := omega) only [go_sem, dec_t, dec_f, w6, r7', ha9, w64, cadd1]
  refine hn (l'.length + 1, w9) _ (by dsimp only; omega) ⟨l' ++ [⟨⟨num, kind, page, refs, keep, stay, data⟩, .sl wa refs.length wc we, .sl xa keep.length xc xe, .sl ya data.length yc ye⟩], by dsimp only; omega, by simp, ?_, ?_, ?_⟩
  · dsimp only
    rw [ht, ← hss]
    simp [ss]
  · intro o ho
    rcases List.mem_append.1 ho with ho | ho
    · exact hok o ho
    · rw [List.mem_singleton.1 ho]; exact sOk
  · dsimp only
    rw [List.length_append, List.length_singleton, List.flatMap_append]
    have e : sgCells (l' ++ [⟨⟨num, kind, page, refs, keep, stay, data⟩, .sl wa refs.length wc we, .sl xa keep.length xc xe, .sl ya data.length yc ye⟩]) = sgCells l' ++ [.int .i64 num, .int .i64 kind, .int .i64 page, .sl wa refs.length wc we, .sl xa keep.length xc xe, .bool stay, .sl ya data.length yc ye] := by
      simp [sgCells, SgO.cs, Sg.cells]
    rw [e]
    refine Hs.perm (Hs.p1 g9).tail ?_
    refine List.Perm.cons _ ?_
    classical
    refine List.perm_iff_count.2 fun A => ?_
    simp only [prt, List.count_append, List.count_cons, List.count_nil, List.flatMap_cons, List.flatMap_nil, List.append_nil]
    ac_rfl
end
end Go.Ab
namespace Go.Ab
-- burinref17_Write: 228, parameters ? ?; loops burinref17_Write_l0 [0 ?, 1 ?, 8 ?, 12 ?]; burinref17_Write_l1 [0 ?, 1 ?, 8 ?, 9 ?]; burinref17_Write_l2 [0 ?, 1 ?, 6 ?, 7 ?]
-- burinref17_Ordered: 227, parameters l; loops burinref17_Ordered_l0 [0 l, 3 o, 5 i]; burinref17_Ordered_l1 [0 l, 3 o, 4 i]
-- burinref17_order_come: 229, parameters ? ?; loops burinref17_order_come_l0 [0 ?, 3 ?, 6 ?, 7 ?]; burinref17_order_come_l1 [0 ?, 3 ?, 6 ?, 7 ?, 8 ?, 9 ?]; burinref17_order_come_l2 [0 ?, 3 ?, 5 ?]
-- burinref17_order_place: 231, parameters ? ?; loops 
-- burinref17_has: 230, parameters l n; loops burinref17_has_l0 [0 l, 1 n, 5 i]
def burinref17_Write_l2 : Cd := .seq (.seq (.reg false [0, 1, 6, 7, 19] [⟨some 16, .mv (.t 7), none, 0, []⟩,
    ⟨some 17, .mv (.t 0), none, 0, []⟩,
    ⟨some 18, .len none (.t 17), none, 0, []⟩,
    ⟨some 19, .bin .lss .num (.t 16) (.t 18), none, 0, []⟩])
  (.cond (.t 19) (.skip)
  (.exit 0)))
  (.seq (.block 1 (.seq (.reg false [0, 1, 6, 7, 27] [⟨some 22, .mv (.t 0), none, 0, []⟩,
    ⟨some 23, .mv (.t 7), none, 0, []⟩,
    ⟨some 24, .iad none 7 (.t 22) (.t 23), none, 0, []⟩,
    ⟨some 25, .fad 1 (.t 24), none, 0, []⟩,
    ⟨some 26, .load none (.t 25), none, 0, []⟩,
    ⟨some 27, .bin .eql .num (.t 26) (.c (.int .i64 1)), none, 0, []⟩])
  (.cond (.t 27) (.reg false [0, 1, 6, 7] [⟨some 28, .mv (.t 6), none, 0, []⟩,
    ⟨some 29, .bin .add .num (.t 28) (.c (.int .i64 1)), none, 0, []⟩,
    ⟨some 6, .mv (.t 29), none, 0, []⟩])
  (.skip))))
  (.reg false [0, 1, 6, 7] [⟨some 20, .mv (.t 7), none, 0, []⟩,
    ⟨some 21, .bin .add .num (.t 20) (.c (.int .i64 1)), none, 0, []⟩,
    ⟨some 7, .mv (.t 21), none, 0, []⟩]))
def burinref17_Write_l1 : Cd := .seq (.seq (.reg false [0, 1, 8, 9, 42] [⟨some 39, .mv (.t 9), none, 0, []⟩,
    ⟨some 40, .mv (.t 0), none, 0, []⟩,
    ⟨some 41, .len none (.t 40), none, 0, []⟩,
    ⟨some 42, .bin .lss .num (.t 39) (.t 41), none, 0, []⟩])
  (.cond (.t 42) (.skip)
  (.exit 2)))
  (.seq (.block 3 (.seq (.reg false [0, 1, 8, 9, 10] [⟨some 46, .mv (.t 0), none, 0, []⟩,
    ⟨some 47, .mv (.t 9), none, 0, []⟩,
    ⟨some 48, .iad none 7 (.t 46) (.t 47), none, 0, []⟩,
    ⟨some 49, .load (some 7) (.t 48), none, 0, []⟩,
    ⟨some 50, .call (.f 172) [(.t 49)], none, 0, []⟩,
    ⟨some 45, .mv (.t 50), none, 0, []⟩,
    ⟨some 51, .ext 0 (.t 45), none, 0, []⟩,
    ⟨some 52, .ext 1 (.t 45), none, 0, []⟩,
    ⟨some 10, .mv (.t 51), none, 0, []⟩,
    ⟨some 11, .mv (.t 52), none, 0, []⟩])
  (.seq (.reg false [0, 1, 8, 9] [⟨some 53, .mv (.t 8), none, 0, []⟩,
    ⟨some 54, .mv (.t 10), none, 0, []⟩,
    ⟨some 55, .append 1 1 (.t 53) (.t 54), none, 0, []⟩,
    ⟨some 8, .mv (.t 55), none, 0, []⟩])
  (.seq (.reg false [0, 1, 8, 9, 57] [⟨some 56, .mv (.t 1), none, 0, []⟩,
    ⟨some 57, .un .not (.t 56), none, 0, []⟩])
  (.cond (.t 57) (.reg false [0, 1, 8, 9] [⟨some 58, .mv (.t 8), none, 0, []⟩,
    ⟨some 59, .mv (.t 0), none, 0, []⟩,
    ⟨some 60, .mv (.t 9), none, 0, []⟩,
    ⟨some 61, .iad none 7 (.t 59) (.t 60), none, 0, []⟩,
    ⟨some 62, .fad 6 (.t 61), none, 0, []⟩,
    ⟨some 63, .load none (.t 62), none, 0, []⟩,
    ⟨some 64, .append 1 1 (.t 58) (.t 63), none, 0, []⟩,
    ⟨some 8, .mv (.t 64), none, 0, []⟩])
  (.skip))))))
  (.reg false [0, 1, 8, 9] [⟨some 43, .mv (.t 9), none, 0, []⟩,
    ⟨some 44, .bin .add .num (.t 43) (.c (.int .i64 1)), none, 0, []⟩,
    ⟨some 9, .mv (.t 44), none, 0, []⟩]))
def burinref17_Write_l0 : Cd := .seq (.seq (.reg false [0, 1, 8, 12, 71] [⟨some 65, .mv (.t 12), none, 0, []⟩,
    ⟨some 66, .mv (.t 0), none, 0, []⟩,
    ⟨some 67, .len none (.t 66), none, 0, []⟩,
    ⟨some 68, .bin .lss .num (.t 65) (.t 67), none, 0, []⟩,
    ⟨some 69, .mv (.t 68), none, 0, []⟩,
    ⟨some 70, .mv (.t 1), some (69, true), 0, []⟩,
    ⟨some 71, .pick (.t 69) (.t 70) (.c (.bool false)), none, 0, []⟩])
  (.cond (.t 71) (.skip)
  (.exit 4)))
  (.seq (.block 5 (.reg false [0, 1, 8, 12] [⟨some 74, .mv (.t 8), none, 0, []⟩,
    ⟨some 75, .mv (.t 0), none, 0, []⟩,
    ⟨some 76, .mv (.t 12), none, 0, []⟩,
    ⟨some 77, .iad none 7 (.t 75) (.t 76), none, 0, []⟩,
    ⟨some 78, .fad 6 (.t 77), none, 0, []⟩,
    ⟨some 79, .load none (.t 78), none, 0, []⟩,
    ⟨some 80, .append 1 1 (.t 74) (.t 79), none, 0, []⟩,
    ⟨some 8, .mv (.t 80), none, 0, []⟩]))
  (.reg false [0, 1, 8, 12] [⟨some 72, .mv (.t 12), none, 0, []⟩,
    ⟨some 73, .bin .add .num (.t 72) (.c (.int .i64 1)), none, 0, []⟩,
    ⟨some 12, .mv (.t 73), none, 0, []⟩]))
/-- burin/burinref17.Write -/
def burinref17_Write : AFun := ⟨2, 82, true, [.t 4, .t 5],
  .seq (.reg false [0, 1] [⟨some 4, .mv (.c (.sl none 0 0 0)), none, 0, []⟩,
    ⟨some 5, .mv (.c (.int .i64 0)), none, 0, []⟩])
  (.seq (.seq (.reg false [0, 1, 15] [⟨some 13, .mv (.t 0), none, 0, []⟩,
    ⟨some 14, .call (.f 227) [(.t 13)], none, 0, []⟩,
    ⟨some 15, .un .not (.t 14), none, 0, []⟩])
  (.cond (.t 15) (.seq (.reg false [4, 5] [⟨some 4, .mv (.c (.sl none 0 0 0)), none, 0, []⟩,
    ⟨some 5, .mv (.c (.int .i64 165)), none, 0, []⟩])
  (.ret))
  (.skip)))
  (.seq (.reg false [0, 1, 6] [⟨some 6, .mv (.c (.int .i64 0)), none, 0, []⟩])
  (.seq (.seq (.reg false [0, 1, 6, 7] [⟨some 7, .mv (.c (.int .i64 0)), none, 0, []⟩])
  (.block 0 (.loop [0, 1, 6, 7] burinref17_Write_l2)))
  (.seq (.reg false [0, 1, 6, 8] [⟨some 30, .bslice 1 [.int .u8 0] 5 [(0, (.c (.int .u8 66))), (1, (.c (.int .u8 85))), (2, (.c (.int .u8 82))), (3, (.c (.int .u8 1))), (4, (.c (.int .u8 0)))], none, 0, []⟩,
    ⟨some 8, .mv (.t 30), none, 0, []⟩])
  (.seq (.seq (.reg false [0, 1, 6, 8, 31] [⟨some 31, .mv (.t 1), none, 0, []⟩])
  (.cond (.t 31) (.reg false [0, 1, 6, 8] [⟨some 32, .mv (.t 8), none, 0, []⟩,
    ⟨some 33, .iad none 1 (.t 32) (.c (.int .i64 4)), none, 0, []⟩,
    ⟨none, .store 1 (.t 33) (.c (.int .u8 1)), none, 0, []⟩])
  (.skip)))
  (.seq (.reg false [0, 1, 8] [⟨some 34, .mv (.t 8), none, 0, []⟩,
    ⟨some 35, .mv (.t 6), none, 0, []⟩,
    ⟨some 36, .conv .u64 (.t 35), none, 0, []⟩,
    ⟨some 37, .call (.f 18) [(.t 36)], none, 0, []⟩,
    ⟨some 38, .append 1 1 (.t 34) (.t 37), none, 0, []⟩,
    ⟨some 8, .mv (.t 38), none, 0, []⟩])
  (.seq (.seq (.reg false [0, 1, 8, 9] [⟨some 9, .mv (.c (.int .i64 0)), none, 0, []⟩])
  (.block 2 (.loop [0, 1, 8, 9] burinref17_Write_l1)))
  (.seq (.seq (.reg false [0, 1, 8, 12] [⟨some 12, .mv (.c (.int .i64 0)), none, 0, []⟩])
  (.block 4 (.loop [0, 1, 8, 12] burinref17_Write_l0)))
  (.seq (.reg false [4, 5] [⟨some 81, .mv (.t 8), none, 0, []⟩,
    ⟨some 4, .mv (.t 81), none, 0, []⟩,
    ⟨some 5, .mv (.c (.int .i64 0)), none, 0, []⟩])
  (.ret))))))))))⟩

def burinref17_Ordered_l1 : Cd := .seq (.seq (.reg false [0, 3, 4, 11] [⟨some 8, .mv (.t 4), none, 0, []⟩,
    ⟨some 9, .mv (.t 0), none, 0, []⟩,
    ⟨some 10, .len none (.t 9), none, 0, []⟩,
    ⟨some 11, .bin .lss .num (.t 8) (.t 10), none, 0, []⟩])
  (.cond (.t 11) (.skip)
  (.exit 0)))
  (.seq (.block 1 (.seq (.reg false [0, 3, 4, 19] [⟨some 14, .mv (.t 0), none, 0, []⟩,
    ⟨some 15, .mv (.t 4), none, 0, []⟩,
    ⟨some 16, .iad none 7 (.t 14) (.t 15), none, 0, []⟩,
    ⟨some 17, .fad 1 (.t 16), none, 0, []⟩,
    ⟨some 18, .load none (.t 17), none, 0, []⟩,
    ⟨some 19, .bin .eql .num (.t 18) (.c (.int .i64 1)), none, 0, []⟩])
  (.cond (.t 19) (.reg false [0, 3, 4] [⟨some 20, .mv (.t 3), none, 0, []⟩,
    ⟨some 21, .nilck (.t 20), none, 0, []⟩,
    ⟨some 22, .fad 2 (.t 21), none, 0, []⟩,
    ⟨some 23, .load none (.t 22), none, 0, []⟩,
    ⟨some 24, .bin .add .num (.t 23) (.c (.int .i64 1)), none, 0, []⟩,
    ⟨some 25, .nilck (.t 20), none, 0, []⟩,
    ⟨some 26, .fad 2 (.t 25), none, 0, []⟩,
    ⟨none, .store 1 (.t 26) (.t 24), none, 0, []⟩])
  (.skip))))
  (.reg false [0, 3, 4] [⟨some 12, .mv (.t 4), none, 0, []⟩,
    ⟨some 13, .bin .add .num (.t 12) (.c (.int .i64 1)), none, 0, []⟩,
    ⟨some 4, .mv (.t 13), none, 0, []⟩]))
def burinref17_Ordered_l0 : Cd := .seq (.seq (.reg false [0, 3, 5, 35] [⟨some 32, .mv (.t 5), none, 0, []⟩,
    ⟨some 33, .mv (.t 0), none, 0, []⟩,
    ⟨some 34, .len none (.t 33), none, 0, []⟩,
    ⟨some 35, .bin .lss .num (.t 32) (.t 34), none, 0, []⟩])
  (.cond (.t 35) (.skip)
  (.exit 2)))
  (.seq (.block 3 (.seq (.reg false [0, 3, 5, 58] [⟨some 38, .mv (.t 3), none, 0, []⟩,
    ⟨some 39, .nilck (.t 38), none, 0, []⟩,
    ⟨some 40, .fad 4 (.t 39), none, 0, []⟩,
    ⟨some 41, .load none (.t 40), none, 0, []⟩,
    ⟨some 42, .mv (.t 41), none, 0, []⟩,
    ⟨some 43, .mv (.t 0), some (42, false), 0, []⟩,
    ⟨some 44, .mv (.t 5), some (42, false), 0, []⟩,
    ⟨some 45, .iad none 7 (.t 43) (.t 44), some (42, false), 0, []⟩,
    ⟨some 46, .load (some 7) (.t 45), some (42, false), 0, []⟩,
    ⟨some 47, .call (.f 170) [(.t 46)], some (42, false), 0, []⟩,
    ⟨some 48, .un .not (.t 47), some (42, false), 0, []⟩,
    ⟨some 49, .pick (.t 42) (.c (.bool true)) (.t 48), none, 0, []⟩,
    ⟨some 50, .mv (.t 49), none, 0, []⟩,
    ⟨some 51, .mv (.t 3), some (50, false), 0, []⟩,
    ⟨some 52, .mv (.t 0), some (50, false), 0, []⟩,
    ⟨some 53, .mv (.t 5), some (50, false), 0, []⟩,
    ⟨some 54, .iad none 7 (.t 52) (.t 53), some (50, false), 0, []⟩,
    ⟨some 55, .load (some 7) (.t 54), some (50, false), 0, []⟩,
    ⟨some 56, .call (.f 229) [(.t 51), (.t 55)], some (50, false), 0, []⟩,
    ⟨some 57, .bin .neq .num (.t 56) (.c (.int .i64 0)), some (50, false), 0, []⟩,
    ⟨some 58, .pick (.t 50) (.c (.bool true)) (.t 57), none, 0, []⟩])
  (.cond (.t 58) (.seq (.reg false [2] [⟨some 2, .mv (.c (.bool false)), none, 0, []⟩])
  (.ret))
  (.skip))))
  (.reg false [0, 3, 5] [⟨some 36, .mv (.t 5), none, 0, []⟩,
    ⟨some 37, .bin .add .num (.t 36) (.c (.int .i64 1)), none, 0, []⟩,
    ⟨some 5, .mv (.t 37), none, 0, []⟩]))
/-- burin/burinref17.Ordered -/
def burinref17_Ordered : AFun := ⟨1, 63, true, [.t 2],
  .seq (.reg false [0] [⟨some 2, .mv (.c (.bool false)), none, 0, []⟩])
  (.seq (.reg false [0, 3] [⟨some 6, .build [.int .i64 0, .int .i64 0, .int .i64 0, .bool false, .bool false, .sl none 0 0 0] [], none, 0, []⟩,
    ⟨some 7, .box 6 (.t 6), none, 0, []⟩,
    ⟨some 3, .mv (.t 7), none, 0, []⟩])
  (.seq (.seq (.reg false [0, 3, 4] [⟨some 4, .mv (.c (.int .i64 0)), none, 0, []⟩])
  (.block 0 (.loop [0, 3, 4] burinref17_Ordered_l1)))
  (.seq (.seq (.reg false [0, 3, 31] [⟨some 27, .mv (.t 3), none, 0, []⟩,
    ⟨some 28, .nilck (.t 27), none, 0, []⟩,
    ⟨some 29, .fad 2 (.t 28), none, 0, []⟩,
    ⟨some 30, .load none (.t 29), none, 0, []⟩,
    ⟨some 31, .bin .gtr .num (.t 30) (.c (.int .i64 64)), none, 0, []⟩])
  (.cond (.t 31) (.seq (.reg false [2] [⟨some 2, .mv (.c (.bool false)), none, 0, []⟩])
  (.ret))
  (.skip)))
  (.seq (.seq (.reg false [0, 3, 5] [⟨some 5, .mv (.c (.int .i64 0)), none, 0, []⟩])
  (.block 2 (.loop [0, 3, 5] burinref17_Ordered_l0)))
  (.seq (.reg false [2] [⟨some 59, .mv (.t 3), none, 0, []⟩,
    ⟨some 60, .nilck (.t 59), none, 0, []⟩,
    ⟨some 61, .fad 4 (.t 60), none, 0, []⟩,
    ⟨some 62, .load none (.t 61), none, 0, []⟩,
    ⟨some 2, .mv (.t 62), none, 0, []⟩])
  (.ret))))))⟩

def burinref17_order_come_l2 : Cd := .seq (.seq (.reg false [0, 3, 5, 25] [⟨some 21, .mv (.t 5), none, 0, []⟩,
    ⟨some 22, .fad 3 (.t 3), none, 0, []⟩,
    ⟨some 23, .load none (.t 22), none, 0, []⟩,
    ⟨some 24, .len none (.t 23), none, 0, []⟩,
    ⟨some 25, .bin .lss .num (.t 21) (.t 24), none, 0, []⟩])
  (.cond (.t 25) (.skip)
  (.exit 0)))
  (.seq (.block 1 (.seq (.reg true [0, 3, 5, 38] [⟨some 28, .mv (.t 0), none, 0, []⟩,
    ⟨some 29, .nilck (.t 28), none, 1, []⟩,
    ⟨some 30, .fad 5 (.t 29), none, 2, []⟩,
    ⟨some 31, .load none (.t 30), none, 3, []⟩,
    ⟨some 32, .fad 3 (.t 3), none, 4, []⟩,
    ⟨some 33, .load none (.t 32), none, 5, []⟩,
    ⟨some 34, .mv (.t 5), none, 6, []⟩,
    ⟨some 35, .iad none 1 (.t 33) (.t 34), none, 7, []⟩,
    ⟨some 36, .load none (.t 35), none, 8, []⟩,
    ⟨some 37, .call (.f 230) [(.t 31), (.t 36)], none, 9, []⟩,
    ⟨some 38, .un .not (.t 37), none, 10, []⟩])
  (.cond (.t 38) (.seq (.reg false [4] [⟨some 4, .mv (.c (.int .i64 162)), none, 0, []⟩])
  (.ret))
  (.skip))))
  (.reg false [0, 3, 5] [⟨some 26, .mv (.t 5), none, 0, []⟩,
    ⟨some 27, .bin .add .num (.t 26) (.c (.int .i64 1)), none, 0, []⟩,
    ⟨some 5, .mv (.t 27), none, 0, []⟩]))
def burinref17_order_come_l1 : Cd := .seq (.seq (.reg false [0, 3, 6, 7, 8, 9, 83] [⟨some 79, .mv (.t 9), none, 0, []⟩,
    ⟨some 80, .fad 3 (.t 3), none, 0, []⟩,
    ⟨some 81, .load none (.t 80), none, 0, []⟩,
    ⟨some 82, .len none (.t 81), none, 0, []⟩,
    ⟨some 83, .bin .lss .num (.t 79) (.t 82), none, 0, []⟩])
  (.cond (.t 83) (.skip)
  (.exit 5)))
  (.seq (.block 6 (.seq (.reg true [0, 3, 6, 7, 8, 9, 106] [⟨some 86, .fad 3 (.t 3), none, 0, []⟩,
    ⟨some 87, .load none (.t 86), none, 1, []⟩,
    ⟨some 88, .mv (.t 9), none, 2, []⟩,
    ⟨some 89, .iad none 1 (.t 87) (.t 88), none, 3, []⟩,
    ⟨some 90, .load none (.t 89), none, 4, []⟩,
    ⟨some 91, .mv (.t 0), none, 5, []⟩,
    ⟨some 92, .nilck (.t 91), none, 6, []⟩,
    ⟨some 93, .fad 5 (.t 92), none, 7, []⟩,
    ⟨some 94, .load none (.t 93), none, 8, []⟩,
    ⟨some 95, .mv (.t 7), none, 9, []⟩,
    ⟨some 96, .iad none 1 (.t 94) (.t 95), none, 10, []⟩,
    ⟨some 97, .load none (.t 96), none, 11, []⟩,
    ⟨some 98, .bin .eql .num (.t 90) (.t 97), none, 12, []⟩,
    ⟨some 99, .mv (.t 98), none, 13, []⟩,
    ⟨some 100, .fad 4 (.t 3), some (99, true), 14, []⟩,
    ⟨some 101, .load none (.t 100), some (99, true), 15, []⟩,
    ⟨some 102, .mv (.t 9), some (99, true), 16, []⟩,
    ⟨some 103, .iad none 1 (.t 101) (.t 102), some (99, true), 17, []⟩,
    ⟨some 104, .load none (.t 103), some (99, true), 18, []⟩,
    ⟨some 105, .un .not (.t 104), some (99, true), 19, []⟩,
    ⟨some 106, .pick (.t 99) (.t 105) (.c (.bool false)), none, 20, []⟩])
  (.cond (.t 106) (.reg false [0, 3, 6, 7, 8, 9] [⟨some 8, .mv (.c (.bool false)), none, 0, []⟩])
  (.skip))))
  (.reg false [0, 3, 6, 7, 8, 9] [⟨some 84, .mv (.t 9), none, 0, []⟩,
    ⟨some 85, .bin .add .num (.t 84) (.c (.int .i64 1)), none, 0, []⟩,
    ⟨some 9, .mv (.t 85), none, 0, []⟩]))
def burinref17_order_come_l0 : Cd := .seq (.seq (.reg false [0, 3, 6, 7, 76] [⟨some 70, .mv (.t 7), none, 0, []⟩,
    ⟨some 71, .mv (.t 0), none, 0, []⟩,
    ⟨some 72, .nilck (.t 71), none, 0, []⟩,
    ⟨some 73, .fad 5 (.t 72), none, 0, []⟩,
    ⟨some 74, .load none (.t 73), none, 0, []⟩,
    ⟨some 75, .len none (.t 74), none, 0, []⟩,
    ⟨some 76, .bin .lss .num (.t 70) (.t 75), none, 0, []⟩])
  (.cond (.t 76) (.skip)
  (.exit 3)))
  (.seq (.block 4 (.seq (.reg false [0, 3, 6, 7, 8] [⟨some 8, .mv (.c (.bool true)), none, 0, []⟩])
  (.seq (.seq (.reg false [0, 3, 6, 7, 8, 9] [⟨some 9, .mv (.c (.int .i64 0)), none, 0, []⟩])
  (.block 5 (.loop [0, 3, 6, 7, 8, 9] burinref17_order_come_l1)))
  (.seq (.reg false [0, 3, 6, 7, 107] [⟨some 107, .mv (.t 8), none, 0, []⟩])
  (.cond (.t 107) (.reg false [0, 3, 6, 7] [⟨some 108, .mv (.t 6), none, 0, []⟩,
    ⟨some 109, .mv (.t 0), none, 0, []⟩,
    ⟨some 110, .nilck (.t 109), none, 0, []⟩,
    ⟨some 111, .fad 5 (.t 110), none, 0, []⟩,
    ⟨some 112, .load none (.t 111), none, 0, []⟩,
    ⟨some 113, .mv (.t 7), none, 0, []⟩,
    ⟨some 114, .iad none 1 (.t 112) (.t 113), none, 0, []⟩,
    ⟨some 115, .load none (.t 114), none, 0, []⟩,
    ⟨some 116, .bslice 1 [.int .i64 0] 1 [(0, (.t 115))], none, 0, []⟩,
    ⟨some 117, .append 1 8 (.t 108) (.t 116), none, 0, []⟩,
    ⟨some 6, .mv (.t 117), none, 0, []⟩])
  (.skip))))))
  (.reg false [0, 3, 6, 7] [⟨some 77, .mv (.t 7), none, 0, []⟩,
    ⟨some 78, .bin .add .num (.t 77) (.c (.int .i64 1)), none, 0, []⟩,
    ⟨some 7, .mv (.t 78), none, 0, []⟩]))
/-- (*burin/burinref17.order).come -/
def burinref17_order_come : AFun := ⟨2, 129, true, [.t 4],
  .seq (.reg false [0, 3] [⟨some 3, .box 7 (.t 1), none, 0, []⟩,
    ⟨some 4, .mv (.c (.int .i64 0)), none, 0, []⟩])
  (.seq (.seq (.reg true [0, 3, 16] [⟨some 10, .fad 0 (.t 3), none, 0, []⟩,
    ⟨some 11, .load none (.t 10), none, 1, []⟩,
    ⟨some 12, .mv (.t 0), none, 2, []⟩,
    ⟨some 13, .nilck (.t 12), none, 3, []⟩,
    ⟨some 14, .fad 0 (.t 13), none, 4, []⟩,
    ⟨some 15, .load none (.t 14), none, 5, []⟩,
    ⟨some 16, .bin .neq .num (.t 11) (.t 15), none, 6, []⟩])
  (.cond (.t 16) (.seq (.reg false [4] [⟨some 4, .mv (.c (.int .i64 161)), none, 0, []⟩])
  (.ret))
  (.skip)))
  (.seq (.seq (.reg false [0, 3, 20] [⟨some 17, .mv (.t 0), none, 0, []⟩,
    ⟨some 18, .load (some 7) (.t 3), none, 0, []⟩,
    ⟨some 19, .call (.f 231) [(.t 17), (.t 18)], none, 0, []⟩,
    ⟨some 20, .un .not (.t 19), none, 0, []⟩])
  (.cond (.t 20) (.seq (.reg false [4] [⟨some 4, .mv (.c (.int .i64 151)), none, 0, []⟩])
  (.ret))
  (.skip)))
  (.seq (.seq (.reg false [0, 3, 5] [⟨some 5, .mv (.c (.int .i64 0)), none, 0, []⟩])
  (.block 0 (.loop [0, 3, 5] burinref17_order_come_l2)))
  (.seq (.reg false [0, 3] [⟨some 39, .mv (.t 0), none, 0, []⟩,
    ⟨some 40, .nilck (.t 39), none, 0, []⟩,
    ⟨some 41, .fad 0 (.t 40), none, 0, []⟩,
    ⟨some 42, .load none (.t 41), none, 0, []⟩,
    ⟨some 43, .bin .add .num (.t 42) (.c (.int .i64 1)), none, 0, []⟩,
    ⟨some 44, .nilck (.t 39), none, 0, []⟩,
    ⟨some 45, .fad 0 (.t 44), none, 0, []⟩,
    ⟨none, .store 1 (.t 45) (.t 43), none, 0, []⟩])
  (.seq (.seq (.reg false [0, 3, 47] [⟨some 46, .fad 1 (.t 3), none, 0, []⟩,
    ⟨some 47, .load none (.t 46), none, 0, []⟩])
  (.block 2 (.seq (.reg false [0, 3, 47, 48] [⟨some 49, .bin .eql .num (.t 47) (.c (.int .i64 1)), none, 0, []⟩,
    ⟨some 48, .mv (.t 49), none, 0, []⟩])
  (.cond (.t 48) (.seq (.reg false [0, 3] [⟨some 50, .mv (.t 0), none, 0, []⟩,
    ⟨some 51, .nilck (.t 50), none, 0, []⟩,
    ⟨some 52, .fad 1 (.t 51), none, 0, []⟩,
    ⟨some 53, .load none (.t 52), none, 0, []⟩,
    ⟨some 54, .bin .add .num (.t 53) (.c (.int .i64 1)), none, 0, []⟩,
    ⟨some 55, .nilck (.t 50), none, 0, []⟩,
    ⟨some 56, .fad 1 (.t 55), none, 0, []⟩,
    ⟨none, .store 1 (.t 56) (.t 54), none, 0, []⟩])
  (.reg false [0, 3] [⟨some 57, .mv (.t 0), none, 0, []⟩,
    ⟨some 58, .nilck (.t 57), none, 0, []⟩,
    ⟨some 59, .fad 3 (.t 58), none, 0, []⟩,
    ⟨none, .store 1 (.t 59) (.c (.bool true)), none, 0, []⟩]))
  (.seq (.reg false [0, 3, 47, 60] [⟨some 61, .bin .eql .num (.t 47) (.c (.int .i64 6)), none, 0, []⟩,
    ⟨some 60, .mv (.t 61), none, 0, []⟩])
  (.cond (.t 60) (.reg false [0, 3] [⟨some 62, .mv (.t 0), none, 0, []⟩,
    ⟨some 63, .nilck (.t 62), none, 0, []⟩,
    ⟨some 64, .fad 3 (.t 63), none, 0, []⟩,
    ⟨none, .store 1 (.t 64) (.c (.bool false)), none, 0, []⟩])
  (.seq (.reg false [0, 3, 65] [⟨some 66, .bin .eql .num (.t 47) (.c (.int .i64 7)), none, 0, []⟩,
    ⟨some 65, .mv (.t 66), none, 0, []⟩])
  (.cond (.t 65) (.reg false [0, 3] [⟨some 67, .mv (.t 0), none, 0, []⟩,
    ⟨some 68, .nilck (.t 67), none, 0, []⟩,
    ⟨some 69, .fad 4 (.t 68), none, 0, []⟩,
    ⟨none, .store 1 (.t 69) (.c (.bool true)), none, 0, []⟩])
  (.skip)))))))))
  (.seq (.reg false [0, 3, 6] [⟨some 6, .mv (.c (.sl none 0 0 0)), none, 0, []⟩])
  (.seq (.seq (.reg false [0, 3, 6, 7] [⟨some 7, .mv (.c (.int .i64 0)), none, 0, []⟩])
  (.block 3 (.loop [0, 3, 6, 7] burinref17_order_come_l0)))
  (.seq (.seq (.reg false [0, 3, 6, 119] [⟨some 118, .fad 5 (.t 3), none, 0, []⟩,
    ⟨some 119, .load none (.t 118), none, 0, []⟩])
  (.cond (.t 119) (.reg false [0, 6] [⟨some 120, .mv (.t 6), none, 0, []⟩,
    ⟨some 121, .fad 0 (.t 3), none, 0, []⟩,
    ⟨some 122, .load none (.t 121), none, 0, []⟩,
    ⟨some 123, .bslice 1 [.int .i64 0] 1 [(0, (.t 122))], none, 0, []⟩,
    ⟨some 124, .append 1 8 (.t 120) (.t 123), none, 0, []⟩,
    ⟨some 6, .mv (.t 124), none, 0, []⟩])
  (.skip)))
  (.seq (.reg false [] [⟨some 125, .mv (.t 0), none, 0, []⟩,
    ⟨some 126, .mv (.t 6), none, 0, []⟩,
    ⟨some 127, .nilck (.t 125), none, 0, []⟩,
    ⟨some 128, .fad 5 (.t 127), none, 0, []⟩,
    ⟨none, .store 1 (.t 128) (.t 126), none, 0, []⟩])
  (.seq (.reg false [4] [⟨some 4, .mv (.c (.int .i64 0)), none, 0, []⟩])
  (.ret)))))))))))⟩

/-- (*burin/burinref17.order).place -/
def burinref17_order_place : AFun := ⟨2, 84, true, [.t 4],
  .seq (.reg false [0, 3] [⟨some 3, .box 7 (.t 1), none, 0, []⟩,
    ⟨some 4, .mv (.c (.bool false)), none, 0, []⟩])
  (.seq (.seq (.reg false [0, 3, 6] [⟨some 5, .fad 1 (.t 3), none, 0, []⟩,
    ⟨some 6, .load none (.t 5), none, 0, []⟩])
  (.block 0 (.seq (.reg false [0, 3, 6, 7] [⟨some 8, .bin .eql .num (.t 6) (.c (.int .i64 1)), none, 0, []⟩,
    ⟨some 7, .mv (.t 8), none, 0, []⟩])
  (.cond (.t 7) (.seq (.reg true [4] [⟨some 9, .mv (.t 0), none, 0, []⟩,
    ⟨some 10, .nilck (.t 9), none, 1, []⟩,
    ⟨some 11, .fad 3 (.t 10), none, 2, []⟩,
    ⟨some 12, .load none (.t 11), none, 3, []⟩,
    ⟨some 13, .un .not (.t 12), none, 4, []⟩,
    ⟨some 14, .mv (.t 13), none, 5, []⟩,
    ⟨some 15, .fad 2 (.t 3), some (14, true), 6, []⟩,
    ⟨some 16, .load none (.t 15), some (14, true), 7, []⟩,
    ⟨some 17, .mv (.t 0), some (14, true), 8, []⟩,
    ⟨some 18, .nilck (.t 17), some (14, true), 9, []⟩,
    ⟨some 19, .fad 1 (.t 18), some (14, true), 10, []⟩,
    ⟨some 20, .load none (.t 19), some (14, true), 11, []⟩,
    ⟨some 21, .bin .add .num (.t 20) (.c (.int .i64 1)), some (14, true), 12, []⟩,
    ⟨some 22, .bin .eql .num (.t 16) (.t 21), some (14, true), 13, []⟩,
    ⟨some 23, .pick (.t 14) (.t 22) (.c (.bool false)), none, 14, []⟩,
    ⟨some 24, .mv (.t 23), none, 15, []⟩,
    ⟨some 25, .fad 2 (.t 3), some (24, true), 16, []⟩,
    ⟨some 26, .load none (.t 25), some (24, true), 17, []⟩,
    ⟨some 27, .mv (.t 0), some (24, true), 18, []⟩,
    ⟨some 28, .nilck (.t 27), some (24, true), 19, []⟩,
    ⟨some 29, .fad 2 (.t 28), some (24, true), 20, []⟩,
    ⟨some 30, .load none (.t 29), some (24, true), 21, []⟩,
    ⟨some 31, .bin .leq .num (.t 26) (.t 30), some (24, true), 22, []⟩,
    ⟨some 32, .pick (.t 24) (.t 31) (.c (.bool false)), none, 23, []⟩,
    ⟨some 4, .mv (.t 32), none, 24, []⟩])
  (.ret))
  (.seq (.reg false [0, 3, 6, 33] [⟨some 34, .bin .eql .num (.t 6) (.c (.int .i64 2)), none, 0, []⟩,
    ⟨some 33, .mv (.t 34), none, 0, []⟩])
  (.cond (.t 33) (.seq (.reg true [4] [⟨some 35, .fad 2 (.t 3), none, 0, []⟩,
    ⟨some 36, .load none (.t 35), none, 1, []⟩,
    ⟨some 37, .bin .eql .num (.t 36) (.c (.int .i64 0)), none, 2, []⟩,
    ⟨some 38, .mv (.t 37), none, 3, []⟩,
    ⟨some 39, .mv (.t 0), some (38, false), 4, []⟩,
    ⟨some 40, .nilck (.t 39), some (38, false), 5, []⟩,
    ⟨some 41, .fad 3 (.t 40), some (38, false), 6, []⟩,
    ⟨some 42, .load none (.t 41), some (38, false), 7, []⟩,
    ⟨some 43, .mv (.t 42), some (38, false), 8, []⟩,
    ⟨some 44, .fad 2 (.t 3), some (43, true), 9, []⟩,
    ⟨some 45, .load none (.t 44), some (43, true), 10, []⟩,
    ⟨some 46, .mv (.t 0), some (43, true), 11, []⟩,
    ⟨some 47, .nilck (.t 46), some (43, true), 12, []⟩,
    ⟨some 48, .fad 1 (.t 47), some (43, true), 13, []⟩,
    ⟨some 49, .load none (.t 48), some (43, true), 14, []⟩,
    ⟨some 50, .bin .eql .num (.t 45) (.t 49), some (43, true), 15, []⟩,
    ⟨some 51, .pick (.t 43) (.t 50) (.c (.bool false)), some (38, false), 16, []⟩,
    ⟨some 52, .pick (.t 38) (.c (.bool true)) (.t 51), none, 17, []⟩,
    ⟨some 4, .mv (.t 52), none, 18, []⟩])
  (.ret))
  (.seq (.reg false [0, 3, 53] [⟨some 54, .bin .eql .num (.t 6) (.c (.int .i64 7)), none, 0, []⟩,
    ⟨some 53, .mv (.t 54), none, 0, []⟩])
  (.cond (.t 53) (.seq (.reg true [4] [⟨some 55, .mv (.t 0), none, 0, []⟩,
    ⟨some 56, .nilck (.t 55), none, 1, []⟩,
    ⟨some 57, .fad 3 (.t 56), none, 2, []⟩,
    ⟨some 58, .load none (.t 57), none, 3, []⟩,
    ⟨some 59, .un .not (.t 58), none, 4, []⟩,
    ⟨some 60, .mv (.t 59), none, 5, []⟩,
    ⟨some 61, .mv (.t 0), some (60, true), 6, []⟩,
    ⟨some 62, .nilck (.t 61), some (60, true), 7, []⟩,
    ⟨some 63, .fad 1 (.t 62), some (60, true), 8, []⟩,
    ⟨some 64, .load none (.t 63), some (60, true), 9, []⟩,
    ⟨some 65, .mv (.t 0), some (60, true), 10, []⟩,
    ⟨some 66, .nilck (.t 65), some (60, true), 11, []⟩,
    ⟨some 67, .fad 2 (.t 66), some (60, true), 12, []⟩,
    ⟨some 68, .load none (.t 67), some (60, true), 13, []⟩,
    ⟨some 69, .bin .eql .num (.t 64) (.t 68), some (60, true), 14, []⟩,
    ⟨some 70, .pick (.t 60) (.t 69) (.c (.bool false)), none, 15, []⟩,
    ⟨some 4, .mv (.t 70), none, 16, []⟩])
  (.ret))
  (.skip)))))))))
  (.seq (.reg true [4] [⟨some 71, .mv (.t 0), none, 0, []⟩,
    ⟨some 72, .nilck (.t 71), none, 1, []⟩,
    ⟨some 73, .fad 3 (.t 72), none, 2, []⟩,
    ⟨some 74, .load none (.t 73), none, 3, []⟩,
    ⟨some 75, .mv (.t 74), none, 4, []⟩,
    ⟨some 76, .fad 2 (.t 3), some (75, true), 5, []⟩,
    ⟨some 77, .load none (.t 76), some (75, true), 6, []⟩,
    ⟨some 78, .mv (.t 0), some (75, true), 7, []⟩,
    ⟨some 79, .nilck (.t 78), some (75, true), 8, []⟩,
    ⟨some 80, .fad 1 (.t 79), some (75, true), 9, []⟩,
    ⟨some 81, .load none (.t 80), some (75, true), 10, []⟩,
    ⟨some 82, .bin .eql .num (.t 77) (.t 81), some (75, true), 11, []⟩,
    ⟨some 83, .pick (.t 75) (.t 82) (.c (.bool false)), none, 12, []⟩,
    ⟨some 4, .mv (.t 83), none, 13, []⟩])
  (.ret)))⟩

def burinref17_has_l0 : Cd := .seq (.seq (.reg false [0, 1, 5, 9] [⟨some 6, .mv (.t 5), none, 0, []⟩,
    ⟨some 7, .mv (.t 0), none, 0, []⟩,
    ⟨some 8, .len none (.t 7), none, 0, []⟩,
    ⟨some 9, .bin .lss .num (.t 6) (.t 8), none, 0, []⟩])
  (.cond (.t 9) (.skip)
  (.exit 0)))
  (.seq (.block 1 (.seq (.reg false [0, 1, 5, 17] [⟨some 12, .mv (.t 0), none, 0, []⟩,
    ⟨some 13, .mv (.t 5), none, 0, []⟩,
    ⟨some 14, .iad none 1 (.t 12) (.t 13), none, 0, []⟩,
    ⟨some 15, .load none (.t 14), none, 0, []⟩,
    ⟨some 16, .mv (.t 1), none, 0, []⟩,
    ⟨some 17, .bin .eql .num (.t 15) (.t 16), none, 0, []⟩])
  (.cond (.t 17) (.seq (.reg false [4] [⟨some 4, .mv (.c (.bool true)), none, 0, []⟩])
  (.ret))
  (.skip))))
  (.reg false [0, 1, 5] [⟨some 10, .mv (.t 5), none, 0, []⟩,
    ⟨some 11, .bin .add .num (.t 10) (.c (.int .i64 1)), none, 0, []⟩,
    ⟨some 5, .mv (.t 11), none, 0, []⟩]))
/-- burin/burinref17.has -/
def burinref17_has : AFun := ⟨2, 18, true, [.t 4],
  .seq (.reg false [0, 1] [⟨some 4, .mv (.c (.bool false)), none, 0, []⟩])
  (.seq (.seq (.reg false [0, 1, 5] [⟨some 5, .mv (.c (.int .i64 0)), none, 0, []⟩])
  (.block 0 (.loop [0, 1, 5] burinref17_has_l0)))
  (.seq (.reg false [4] [⟨some 4, .mv (.c (.bool false)), none, 0, []⟩])
  (.ret)))⟩

/-- A program that has them. -/
structure HasRf17 (P : Prog) : Prop where
  h_burinref17_Write : P 228 = some burinref17_Write
  h_burinref17_Ordered : P 227 = some burinref17_Ordered
  h_burinref17_order_come : P 229 = some burinref17_order_come
  h_burinref17_order_place : P 231 = some burinref17_order_place
  h_burinref17_has : P 230 = some burinref17_has

end Go.Ab
namespace Go.Ab
section
variable {P : Prog} {H : Heap} {R : List As} {Q : Out → Heap → Prop}
def refC (most : Nat) (o : OSt) (d : Bool) (hv : V) : List V := [.int .i64 o.next, .int .i64 o.pages, .int .i64 most, .bool o.op, .bool d, hv]
def hasF (v : V) (n : Int) (i : Nat) : Fr := ⟨[(0, v), (1, .int .i64 n), (5, .int .i64 (i : Nat))], []⟩
theorem hasR_ct (hp : HasRf17 P) {v : V} {l : List Int} {n : Int} (hv : Arr H v 1 l.length (i64s l)) (hl : l.length ≤ 140737488355328) (hQ : Q (.ret (.bool (decide (n ∈ l)))) H) : Call P 230 [v, .int .i64 n] H Q := by
  obtain ⟨a1, c1, e1, hs1⟩ := hv.shape
  subst hs1
  refine call_of hp.h_burinref17_has rfl ?_
  simp -implicitDefEqProofs -dsimp (disch := omega) only [go_sem, dec_t, dec_f, ]
  refine loop_cnt l.length (hasF (.sl a1 l.length c1 e1) n) (fun i H' => H' = H ∧ n ∉ l.take i) (fun i H' K hi hS hn hx1 hx2 => ?_) 0 H (Nat.zero_le _) ⟨rfl, by simp⟩
  obtain ⟨rfl, ht⟩ := hS
  unfold hasF
  by_cases hlt : i < l.length
  · obtain ⟨b3, o3, c3, hv3, hr3⟩ := arr_int hv hlt
    cases hv3
    have t1 := List.take_succ_eq_append_getElem hlt
    have hm : l[i] ∈ l := List.getElem_mem hlt
    by_cases hne : l[i] = n
    · rw [hne] at hm
      rw [dec_t hm] at hQ
      generalize l[i] = z at *
      simp -implicitDefEqProofs -dsimp (disch := omega) only [go_sem, dec_t, dec_f, burinref17_has_l0, Int.toNat_natCast, Nat.mul_one, hr3]
      rw [hx2]
      simp -implicitDefEqProofs -dsimp (disch := omega) only [go_sem, dec_t, dec_f, ]
      exact hQ
    · have hx := hn hlt H' ⟨rfl, by rw [t1]; simp only [List.mem_append, List.mem_singleton, not_or]; exact ⟨ht, fun e => hne e.symm⟩⟩
      generalize l[i] = z at *
      simp -implicitDefEqProofs -dsimp (disch := omega) only [go_sem, dec_t, dec_f, burinref17_has_l0, Int.toNat_natCast, Nat.mul_one, hr3, hne, w64, cadd1]
      exact hx
  · have : i = l.length := by omega
    subst this
    rw [List.take_length] at ht
    rw [dec_f ht] at hQ
    simp -implicitDefEqProofs -dsimp (disch := omega) only [go_sem, dec_t, dec_f, burinref17_has_l0]
    rw [hx1]
    simp -implicitDefEqProofs -dsimp (disch := omega) only [go_sem, dec_t, dec_f, ]
    exact hQ
set_option maxHeartbeats 1000000 in
theorem place_ct (hp : HasRf17 P) {b most : Nat} {o : OSt} {d : Bool} {hv v1 v2 v3 : V} {s : Sg} (hpg : o.pages ≤ most) (hm : most ≤ 1000000) (hs : Hs H (Cel b (refC most o d hv) :: R)) (h1 : one v1 = true) (h2 : one v2 = true) (h3 : one v3 = true)
    (hQ : ∀ H', Hs H' (Cel b (refC most o d hv) :: R) → Q (.ret (.bool (mayS most o s))) H') : Call P 231 [.ptr (some (b, 0)), .agg (s.cells v1 v2 v3)] H Q := by
  refine call_of hp.h_burinref17_order_place rfl ?_
  obtain ⟨num, kind, page, refs, keep, stay, data⟩ := s
  obtain ⟨next, pages, op, held⟩ := o
  dsimp only at hpg
  have g1 := hs.alloc (l := Sg.cells ⟨num, kind, page, refs, keep, stay, data⟩ v1 v2 v3)
  replace hQ := hQ _ g1.tail
  have r1 := rd_s g1.cel
  have r2 := rd_s (Hs.p1 g1).cel
  unfold refC Sg.cells at *
  unfold mayS at hQ
  dsimp only at *
  clear hs g1
  by_cases k1 : kind = 1
  · rw [if_pos k1] at hQ
    cases op with
    | true =>
      simp -implicitDefEqProofs -dsimp (disch := omega) only [go_sem, dec_t, dec_f, r1, r2, d_gre]
      exact hQ
    | false =>
      by_cases k2 : page = (pages : Int) + 1
      · by_cases k3 : page ≤ (most : Int)
        · rw [dec_t k2, dec_t k3] at hQ
          simp -implicitDefEqProofs -dsimp (disch := omega) only [go_sem, dec_t, dec_f, r1, r2, d_gre, w64]
          exact hQ
        · rw [dec_t k2, dec_f k3] at hQ
          simp -implicitDefEqProofs -dsimp (disch := omega) only [go_sem, dec_t, dec_f, r1, r2, d_gre, w64]
          exact hQ
      · rw [dec_f k2] at hQ
        simp -implicitDefEqProofs -dsimp (disch := omega) only [go_sem, dec_t, dec_f, r1, r2, d_gre, w64]
        exact hQ
  rw [if_neg k1] at hQ
  by_cases k2 : kind = 2
  · rw [if_pos k2] at hQ
    by_cases k3 : page = 0
    · rw [dec_t k3] at hQ
      simp -implicitDefEqProofs -dsimp (disch := omega) only [go_sem, dec_t, dec_f, r1, r2, d_gre]
      exact hQ
    · rw [dec_f k3] at hQ
      cases op with
      | true =>
        by_cases k4 : page = (pages : Int)
        · rw [dec_t k4] at hQ
          simp -implicitDefEqProofs -dsimp (disch := omega) only [go_sem, dec_t, dec_f, r1, r2, d_gre]
          exact hQ
        · rw [dec_f k4] at hQ
          simp -implicitDefEqProofs -dsimp (disch := omega) only [go_sem, dec_t, dec_f, r1, r2, d_gre]
          exact hQ
      | false =>
        simp -implicitDefEqProofs -dsimp (disch := omega) only [go_sem, dec_t, dec_f, r1, r2, d_gre]
        exact hQ
  rw [if_neg k2] at hQ
  by_cases k3 : kind = 7
  · rw [if_pos k3] at hQ
    cases op with
    | true =>
      simp -implicitDefEqProofs -dsimp (disch := omega) only [go_sem, dec_t, dec_f, r1, r2, d_gre]
      exact hQ
    | false =>
      by_cases k4 : pages = most
      · rw [dec_t k4] at hQ
        simp -implicitDefEqProofs -dsimp (disch := omega) only [go_sem, dec_t, dec_f, r1, r2, d_gre]
        exact hQ
      · rw [dec_f k4] at hQ
        simp -implicitDefEqProofs -dsimp (disch := omega) only [go_sem, dec_t, dec_f, r1, r2, d_gre]
        exact hQ
  rw [if_neg k3] at hQ
  cases op with
  | true =>
    by_cases k4 : page = (pages : Int)
    · rw [dec_t k4] at hQ
      simp -implicitDefEqProofs -dsimp (disch := omega) only [go_sem, dec_t, dec_f, r1, r2, d_gre]
      exact hQ
    · rw [dec_f k4] at hQ
      simp -implicitDefEqProofs -dsimp (disch := omega) only [go_sem, dec_t, dec_f, r1, r2, d_gre]
      exact hQ
  | false =>
    simp -implicitDefEqProofs -dsimp (disch := omega) only [go_sem, dec_t, dec_f, r1, r2, d_gre]
    exact hQ
end
end Go.Ab
namespace Go.Ab
section
variable {P : Prog} {H : Heap} {R : List As} {Q : Out → Heap → Prop}
theorem drp_snoc : ∀ (rs : List Int) (ks : List Bool) (n : Int) {k : Nat} (h1 : k < rs.length) (h2 : k < ks.length), drp (rs.take (k + 1)) (ks.take (k + 1)) n = (drp (rs.take k) (ks.take k) n || (decide (n = rs[k]) && !ks[k]))
  | r :: rs, q :: ks, n, 0, _, _ => by simp [drp]
  | r :: rs, q :: ks, n, k + 1, h1, h2 => by
    have := drp_snoc rs ks n (k := k) (by simpa using h1) (by simpa using h2)
    simp only [List.take_succ_cons, drp, this, List.getElem_cons_succ, Bool.or_assoc]
  | [], _, _, _, h1, _ => by simp at h1
  | _ :: _, [], _, _, _, h2 => by simp at h2
def come2F (b bx i : Nat) : Fr := ⟨[(0, .ptr (some (b, 0))), (3, .ptr (some (bx, 0))), (5, .int .i64 (i : Nat))], []⟩
theorem come_l2 (hp : HasRf17 P) {b bx : Nat} {hv v1 : V} {held refs : List Int} {a0 a1 a2 a4 a5 a6 c0 c1 c2 c3 c4 : V} (hr : Arr H v1 1 refs.length (i64s refs)) (hl : refs.length ≤ 140737488355328) (hh : Arr H hv 1 held.length (i64s held)) (hl2 : held.length ≤ 140737488355328)
    (hb : H.get b = .cells [c0, c1, c2, c3, c4, hv] true) (hx : H.get bx = .cells [a0, a1, a2, v1, a4, a5, a6] true) {Qp : Post} {s' t'}
    (h1 : (∀ n ∈ refs, n ∈ held) → ∀ ex, Qp (.exit 0) ⟨(0, .ptr (some (b, 0))) :: (3, .ptr (some (bx, 0))) :: ex, []⟩ H) (h2 : (∃ n ∈ refs, n ∉ held) → ∀ ex, Qp .ret ⟨(4, .int .i64 162) :: ex, []⟩ H) :
    loopL (Call P) [0, 3, 5] burinref17_order_come_l2 Qp s' t' (come2F b bx 0) H := by
  refine loop_cnt refs.length (come2F b bx) (fun i H' => H' = H ∧ ∀ n ∈ refs.take i, n ∈ held) (fun i H' K hi hS hn hx1 hx2 => ?_) 0 H (Nat.zero_le _) ⟨rfl, by simp⟩
  obtain ⟨rfl, hall⟩ := hS
  have rb := rd_s hb
  have rx := rd_s hx
  unfold come2F
  by_cases hlt : i < refs.length
  · obtain ⟨b3, o3, z3, rfl, rl⟩ := arr_int hr hlt
    have ht := List.take_succ_eq_append_getElem hlt
    have hm : refs[i] ∈ refs := List.getElem_mem hlt
    have hn := hn hlt H'
    generalize refs[i] = n at *
    simp -implicitDefEqProofs -dsimp (disch := omega) only [go_sem, dec_t, dec_f, burinref17_order_come_l2, Int.toNat_natCast, Nat.mul_one, rb, rx, rl]
    refine hasR_ct hp hh hl2 ?_
    by_cases hin : n ∈ held
    · rw [dec_t hin]
      simp -implicitDefEqProofs -dsimp (disch := omega) only [go_sem, dec_t, dec_f, w64, cadd1]
      exact hn ⟨rfl, fun m hm => by rw [ht] at hm; rcases List.mem_append.1 hm with h | h; exact hall m h; rw [List.mem_singleton.1 h]; exact hin⟩
    · rw [dec_f hin]
      simp -implicitDefEqProofs -dsimp (disch := omega) only [go_sem, dec_t, dec_f, ]
      rw [hx2]
      exact h2 ⟨n, hm, hin⟩ _
  · have : i = refs.length := by omega
    subst this
    rw [List.take_length] at hall
    obtain ⟨a, c, e, rfl⟩ := hr.shape
    simp -implicitDefEqProofs -dsimp (disch := omega) only [go_sem, dec_t, dec_f, burinref17_order_come_l2, rx]
    rw [hx1]
    exact h1 hall _
def come1F (b bx : Nat) (lv : V) (i : Nat) (x : Nat × Bool) : Fr := ⟨[(0, .ptr (some (b, 0))), (3, .ptr (some (bx, 0))), (6, lv), (7, .int .i64 (i : Nat)), (8, .bool x.2), (9, .int .i64 (x.1 : Nat))], []⟩
theorem come_l1 {b bx i : Nat} {lv hv v1 v2 : V} {held refs : List Int} {keep : List Bool} {a0 a1 a2 a5 a6 c0 c1 c2 c3 c4 : V} (hr : Arr H v1 1 refs.length (i64s refs)) (hl : refs.length ≤ 140737488355328) (hk : Arr H v2 1 keep.length (bools keep)) (hkl : keep.length = refs.length) (hh : Arr H hv 1 held.length (i64s held)) (hi : i < held.length) (hl2 : held.length ≤ 140737488355328)
    (hb : H.get b = .cells [c0, c1, c2, c3, c4, hv] true) (hx : H.get bx = .cells [a0, a1, a2, v1, v2, a5, a6] true) {Qp : Post} {s' t'}
    (h1 : ∀ ex, Qp (.exit 5) ⟨(0, .ptr (some (b, 0))) :: (3, .ptr (some (bx, 0))) :: (6, lv) :: (7, .int .i64 (i : Nat)) :: (8, .bool (!drp refs keep held[i])) :: ex, []⟩ H) :
    loopL (Call P) [0, 3, 6, 7, 8, 9] burinref17_order_come_l1 Qp s' t' (come1F b bx lv i (0, true)) H := by
  refine loop_dec (σ := Nat × Bool) (fun x => refs.length - x.1) (come1F b bx lv i) (fun x H' => H' = H ∧ x.1 ≤ refs.length ∧ x.2 = !drp (refs.take x.1) (keep.take x.1) held[i]) (fun x H' K ok hn hx1 hx2 => ?_) (0, true) H ⟨rfl, Nat.zero_le _, by simp [drp]⟩
  obtain ⟨k, q⟩ := x
  obtain ⟨rfl, hk1, hq⟩ := ok
  dsimp only at hk1 hq hn
  have rb := rd_s hb
  have rx := rd_s hx
  obtain ⟨b5, o5, z5, rfl, rh⟩ := arr_int hh hi
  unfold come1F
  by_cases hlt : k < refs.length
  · obtain ⟨b3, o3, z3, rfl, rl⟩ := arr_int hr hlt
    obtain ⟨b4, o4, z4, rfl, rk⟩ := arr_bool hk (i := k) (by omega)
    have hd := drp_snoc refs keep held[i] hlt (by omega)
    have hn := fun q' => hn (k + 1, q') H' (by dsimp only; omega)
    dsimp only at hn
    rw [hd] at hn
    generalize drp (refs.take k) (keep.take k) held[i] = dd at *
    subst hq
    generalize refs[k] = n at *
    generalize keep[k] = kk at *
    generalize held[i] = hh at *
    by_cases e : hh = n
    · subst e
      rw [dec_t rfl] at hn
      cases kk with
      | true =>
        simp -implicitDefEqProofs -dsimp (disch := omega) only [go_sem, dec_t, dec_f, burinref17_order_come_l1, Int.toNat_natCast, Nat.mul_one, rb, rx, rl, rk, rh, d_gre, w64, cadd1]
        exact hn _ ⟨rfl, by omega, by cases dd <;> rfl⟩
      | false =>
        simp -implicitDefEqProofs -dsimp (disch := omega) only [go_sem, dec_t, dec_f, burinref17_order_come_l1, Int.toNat_natCast, Nat.mul_one, rb, rx, rl, rk, rh, d_gre, w64, cadd1]
        exact hn _ ⟨rfl, by omega, by cases dd <;> rfl⟩
    · rw [dec_f e] at hn
      simp -implicitDefEqProofs -dsimp (disch := omega) only [go_sem, dec_t, dec_f, burinref17_order_come_l1, Int.toNat_natCast, Nat.mul_one, rb, rx, rl, rk, rh, d_gre, w64, cadd1]
      exact hn _ ⟨rfl, by omega, by cases dd <;> rfl⟩
  · have : k = refs.length := by omega
    subst this
    rw [List.take_length, ← hkl, List.take_length] at hq
    subst hq
    obtain ⟨a, c, e, rfl⟩ := hr.shape
    simp -implicitDefEqProofs -dsimp (disch := omega) only [go_sem, dec_t, dec_f, burinref17_order_come_l1, rx]
    rw [hx1]
    exact h1 _
end
end Go.Ab
namespace Go.Ab
section
variable {P : Prog} {H : Heap} {R : List As} {Q : Out → Heap → Prop}
structure C0X where
  i : Nat
  l : V
def C0X.fr (b bx : Nat) (x : C0X) : Fr := ⟨[(0, .ptr (some (b, 0))), (3, .ptr (some (bx, 0))), (6, x.l), (7, .int .i64 (x.i : Nat))], []⟩
theorem i64s_one (l : List Int) : (i64s l).all one = true := by simp [i64s, one]
theorem come_l0 {b bx : Nat} {hv v1 v2 : V} {held refs : List Int} {keep : List Bool} {a0 a1 a2 a5 a6 c0 c1 c2 c3 c4 : V} (hR : ∀ H', Hs H' R → Arr H' v1 1 refs.length (i64s refs) ∧ Arr H' v2 1 keep.length (bools keep)) (hl : refs.length ≤ 140737488355328) (hkl : keep.length = refs.length) (hl2 : held.length ≤ 1000000000)
    (hs : Hs H (Lst hv 1 held.length (i64s held) :: Cel b [c0, c1, c2, c3, c4, hv] :: Cel bx [a0, a1, a2, v1, v2, a5, a6] :: R)) {Qp : Post} {s' t'}
    (h1 : ∀ lv H' ex, Hs H' (Lst lv 1 (held.filter fun n => !drp refs keep n).length (i64s (held.filter fun n => !drp refs keep n)) :: Lst hv 1 held.length (i64s held) :: Cel b [c0, c1, c2, c3, c4, hv] :: Cel bx [a0, a1, a2, v1, v2, a5, a6] :: R) → Qp (.exit 3) ⟨(0, .ptr (some (b, 0))) :: (3, .ptr (some (bx, 0))) :: (6, lv) :: ex, []⟩ H') :
    loopL (Call P) [0, 3, 6, 7] burinref17_order_come_l0 Qp s' t' (C0X.fr b bx ⟨0, .sl none 0 0 0⟩) H := by
  refine loop_dec (σ := C0X) (fun x => held.length - x.i) (C0X.fr b bx) (fun x H => x.i ≤ held.length ∧ Hs H (Lst x.l 1 ((held.take x.i).filter fun n => !drp refs keep n).length (i64s ((held.take x.i).filter fun n => !drp refs keep n)) :: Lst hv 1 held.length (i64s held) :: Cel b [c0, c1, c2, c3, c4, hv] :: Cel bx [a0, a1, a2, v1, v2, a5, a6] :: R))
    (fun x H K ok hn hx hy => ?_) ⟨0, .sl none 0 0 0⟩ H ⟨Nat.zero_le _, hs.lst (Same.refl _ _) (Or.inl ⟨rfl, by simp, by simp [i64s]⟩) fun b h => h.elim⟩
  obtain ⟨i, lv⟩ := x
  obtain ⟨hi, hS⟩ := ok
  dsimp only at hi hS hn
  have ha := (Hs.p1 hS).own.arr
  have rb := rd_s (Hs.p2 hS).cel
  unfold C0X.fr
  by_cases hlt : i < held.length
  · have ht : (held.take (i + 1)).filter (fun n => !drp refs keep n) = (held.take i).filter (fun n => !drp refs keep n) ++ if drp refs keep held[i] then [] else [held[i]] := by
      rw [List.take_succ_eq_append_getElem hlt, List.filter_append]
      cases h : drp refs keep held[i] <;> simp [h]
    have hfl := List.length_filter_le (fun n => !drp refs keep n) (held.take i)
    rw [List.length_take, Nat.min_eq_left hi] at hfl
    obtain ⟨k1, k2⟩ := hR H hS.tail.tail.tail.tail
    obtain ⟨b5, o5, z5, hv5, rh⟩ := arr_int ha hlt
    have hcb := (Hs.p2 hS).cel
    have hcx := (Hs.p3 hS).cel
    simp -implicitDefEqProofs -dsimp (disch := omega) only [go_sem, dec_t, dec_f, burinref17_order_come_l0, rb]
    rw [hv5]
    simp -implicitDefEqProofs -dsimp (disch := omega) only [go_sem, dec_t, dec_f, rb]
    refine come_l1 (lv := lv) k1 hl k2 hkl ha hlt (by omega) hcb hcx fun ex => ?_
    cases hd : drp refs keep held[i] with
    | true =>
      rw [hd, if_pos rfl, List.append_nil] at ht
      simp -implicitDefEqProofs -dsimp (disch := omega) only [go_sem, dec_t, dec_f, w64, cadd1]
      refine hn ⟨i + 1, lv⟩ H (by dsimp only; omega) ⟨by dsimp only; omega, ?_⟩
      dsimp only
      rw [ht]
      exact hS
    | false =>
      rw [hd, if_neg (by decide)] at ht
      obtain ⟨l6, H6, q6, o6, s6, f6⟩ := app_one (e := 1) (eb := 8) (m := 1) (M := i64s [held[i]]) hS.own rfl (i64s_one _) (by omega) (by omega)
      have g6 := hS.lst' s6 o6 f6
      rw [show i64s ((held.take i).filter fun n => !drp refs keep n) ++ i64s [held[i]] = i64s ((held.take (i + 1)).filter fun n => !drp refs keep n) by rw [ht]; simp [i64s],
        show ((held.take i).filter fun n => !drp refs keep n).length + 1 = ((held.take (i + 1)).filter fun n => !drp refs keep n).length by rw [ht]; simp] at g6
      rw [show i64s [held[i]] = [.int .i64 held[i]] from rfl] at q6
      rw [hv5] at rb
      generalize held[i] = n at *
      have hn := hn ⟨i + 1, l6⟩ H6 (by dsimp only; omega) ⟨by dsimp only; omega, g6⟩
      clear ht hd o6 s6 f6
      simp -implicitDefEqProofs -dsimp (disch := omega) only [go_sem, dec_t, dec_f, rb, Int.toNat_natCast, Nat.mul_one, rh, q6, w64, cadd1]
      exact hn
  · have : i = held.length := by omega
    subst this
    rw [List.take_length] at hS
    obtain ⟨a, c, e, hv5⟩ := ha.shape
    simp -implicitDefEqProofs -dsimp (disch := omega) only [go_sem, dec_t, dec_f, burinref17_order_come_l0, rb]
    rw [hv5]
    simp -implicitDefEqProofs -dsimp (disch := omega) only [go_sem, dec_t, dec_f, ]
    rw [hx]
    rw [hv5] at h1 hS
    exact h1 lv H _ hS
end
end Go.Ab
namespace Go.Ab
section
variable {P : Prog} {H : Heap} {R : List As} {Q : Out → Heap → Prop}
set_option maxHeartbeats 2000000 in
theorem come_ct (hp : HasRf17 P) {b most : Nat} {o : OSt} {d : Bool} {hv v1 v2 v3 : V} {s : Sg} (ok : o.Ok most) (hm : most ≤ 1000000) (hn : o.next ≤ 100000000) (hR : ∀ H', Hs H' R → SgR H' v1 v2 v3 s) (hk : s.keep.length = s.refs.length)
    (hs : Hs H (Lst hv 1 o.held.length (i64s o.held) :: Cel b (refC most o d hv) :: R))
    (h0 : comeE most o s = 0 → ∀ hv' H', Hs H' (Lst hv' 1 (comeO o s).held.length (i64s (comeO o s).held) :: Cel b (refC most (comeO o s) (if s.kind = 7 then true else d) hv') :: R) → Q (.ret (.int .i64 0)) H')
    (h1 : comeE most o s ≠ 0 → ∀ H', Hs H' R → Q (.ret (.int .i64 (comeE most o s))) H') : Call P 229 [.ptr (some (b, 0)), .agg (s.cells v1 v2 v3)] H Q := by
  refine call_of hp.h_burinref17_order_come rfl ?_
  have hr0 := hR H hs.tail.tail
  obtain ⟨a1, z1, e1, rfl⟩ := hr0.refs.shape
  obtain ⟨a2, z2, e2, rfl⟩ := hr0.keep.shape
  obtain ⟨a3, z3, e3, rfl⟩ := hr0.data.shape
  have l1 := hr0.ok.l1
  clear hr0
  have oln := ok.ln
  have g1 := hs.alloc (l := s.cells (.sl a1 s.refs.length z1 e1) (.sl a2 s.keep.length z2 e2) (.sl a3 s.data.length z3 e3))
  have r1 := rd_s g1.cel
  have r2 := rd_s (Hs.p2 g1).cel
  have rm := rd_m g1.cel 7
  by_cases kn : s.num = (o.next : Int)
  rotate_left
  · have he : comeE most o s = 161 := by unfold comeE; rw [if_pos kn]
    rw [he] at h1
    have h1 := h1 (by decide) _ g1.tail.tail.tail
    obtain ⟨num, kind, page, refs, keep, stay, data⟩ := s
    unfold Sg.cells refC at *
    dsimp only at *
    simp -implicitDefEqProofs -dsimp (disch := omega) only [go_sem, dec_t, dec_f, r1, r2]
    exact h1
  have e1' : mayS most o s = false → comeE most o s = 151 := fun k => by unfold comeE; rw [if_neg (by simpa using kn), if_pos k]
  have e2' : mayS most o s = true → (∃ n ∈ s.refs, n ∉ o.held) → comeE most o s = 162 := fun k k2 => by unfold comeE; rw [if_neg (by simpa using kn), if_neg (by rw [k]; decide), if_pos k2]
  have e3' : mayS most o s = true → (∀ n ∈ s.refs, n ∈ o.held) → comeE most o s = 0 := fun k k2 => by unfold comeE; rw [if_neg (by simpa using kn), if_neg (by rw [k]; decide), if_neg (fun ⟨n, h1, h2⟩ => h2 (k2 n h1))]
  obtain ⟨num, kind, page, refs, keep, stay, data⟩ := s
  have c1 : Sg.cells ⟨num, kind, page, refs, keep, stay, data⟩ (.sl a1 refs.length z1 e1) (.sl a2 keep.length z2 e2) (.sl a3 data.length z3 e3) = [.int .i64 num, .int .i64 kind, .int .i64 page, .sl a1 refs.length z1 e1, .sl a2 keep.length z2 e2, .bool stay, .sl a3 data.length z3 e3] := rfl
  rw [c1] at r1 r2 rm g1 ⊢
  dsimp only at kn l1 hk e2' e3'
  have r2' := r2
  unfold refC at r2'
  simp -implicitDefEqProofs -dsimp (disch := omega) only [go_sem, dec_t, dec_f, r1, r2', rm]
  generalize hH1 : H.new _ = H1 at *
  generalize hbx : H.next = bx at *
  clear r1 r2 r2' rm hs
  rw [← c1]
  refine place_ct hp ok.pg hm (Hs.p2 g1) rfl rfl rfl fun H2 g2 => ?_
  have g2 := Hs.p2 g2
  cases hmay : mayS most o ⟨num, kind, page, refs, keep, stay, data⟩ with
  | false =>
    rw [e1' hmay] at h1
    have h1 := h1 (by decide) H2 g2.tail.tail.tail
    simp -implicitDefEqProofs -dsimp (disch := omega) only [go_sem, dec_t, dec_f, ]
    exact h1
  | true =>
  simp -implicitDefEqProofs -dsimp (disch := omega) only [go_sem, dec_t, dec_f, ]
  have g2 : Hs H2 (Lst hv 1 o.held.length (i64s o.held) :: Cel b (refC most o d hv) :: Cel bx [.int .i64 num, .int .i64 kind, .int .i64 page, .sl a1 refs.length z1 e1, .sl a2 keep.length z2 e2, .bool stay, .sl a3 data.length z3 e3] :: R) := g2
  unfold refC at g2
  refine come_l2 hp (hR H2 g2.tail.tail.tail).refs l1 g2.own.arr (by omega) (Hs.p1 g2).cel (Hs.p2 g2).cel (fun hall ex => ?_) (fun hno ex => ?_)
  rotate_left
  · rw [e2' hmay hno] at h1
    have h1 := h1 (by decide) H2 g2.tail.tail.tail
    simp -implicitDefEqProofs -dsimp (disch := omega) only [go_sem, dec_t, dec_f, ]
    exact h1
  have hz := e3' hmay hall
  have h0 := h0 hz
  clear h1 e1' e2' e3'
  obtain ⟨nx, hnx⟩ : ∃ nx : Int, nx = ((o.next + 1 : Nat) : Int) := ⟨_, rfl⟩
  have ecast : (o.next : Int) + 1 = nx := by omega
  obtain ⟨ny, hny⟩ : ∃ ny : Int, ny = ((o.pages + 1 : Nat) : Int) := ⟨_, rfl⟩
  have ecast2 : (o.pages : Int) + 1 = ny := by omega
  have hpgs := ok.pg
  have r3 := rd_s (Hs.p1 g2).cel
  have w3 := wr_s (Hs.p1 g2).cel 0
  have g4 := (Hs.p1 g2).put (l' := [.int .i64 nx, .int .i64 o.pages, .int .i64 most, .bool o.op, .bool d, hv])
  have r4 := rd_s (Hs.p2 g4).cel
  have r4b := rd_s g4.cel
  have hnot : num ∉ o.held := fun h => by have := ok.lt _ h; omega
  obtain ⟨c2, hc2⟩ : ∃ c2 : V, c2 = .int .i64 ((comeO o ⟨num, kind, page, refs, keep, stay, data⟩).pages : Nat) := ⟨_, rfl⟩
  obtain ⟨c4, hc4⟩ : ∃ c4 : V, c4 = .bool (comeO o ⟨num, kind, page, refs, keep, stay, data⟩).op := ⟨_, rfl⟩
  obtain ⟨c5, hc5⟩ : ∃ c5 : V, c5 = .bool (if kind = 7 then true else d) := ⟨_, rfl⟩
  have hend : ∀ hv' H', Hs H' (Lst hv' 1 (keepS o.held ⟨num, kind, page, refs, keep, stay, data⟩ ++ if stay then [num] else []).length (i64s (keepS o.held ⟨num, kind, page, refs, keep, stay, data⟩ ++ if stay then [num] else [])) :: Cel b [.int .i64 nx, c2, .int .i64 most, c4, c5, hv'] :: R) → Q (.ret (.int .i64 0)) H' := fun hv' H' h => h0 hv' H' (by
    subst hc2 hc4 hc5 hnx
    exact h)
  clear h0
  have h5 : ∃ H5, Hs H5 (Cel b [.int .i64 nx, c2, .int .i64 most, c4, c5, hv] :: Lst hv 1 o.held.length (i64s o.held) :: Cel bx [.int .i64 num, .int .i64 kind, .int .i64 page, .sl a1 refs.length z1 e1, .sl a2 keep.length z2 e2, .bool stay, .sl a3 data.length z3 e3] :: R) ∧
      H5 = if kind = 1 then ((H2.put b (.cells [.int .i64 nx, .int .i64 o.pages, .int .i64 most, .bool o.op, .bool d, hv] true)).put b (.cells [.int .i64 nx, .int .i64 ny, .int .i64 most, .bool o.op, .bool d, hv] true)).put b (.cells [.int .i64 nx, .int .i64 ny, .int .i64 most, .bool true, .bool d, hv] true)
        else if kind = 6 then (H2.put b (.cells [.int .i64 nx, .int .i64 o.pages, .int .i64 most, .bool o.op, .bool d, hv] true)).put b (.cells [.int .i64 nx, .int .i64 o.pages, .int .i64 most, .bool false, .bool d, hv] true)
        else if kind = 7 then (H2.put b (.cells [.int .i64 nx, .int .i64 o.pages, .int .i64 most, .bool o.op, .bool d, hv] true)).put b (.cells [.int .i64 nx, .int .i64 o.pages, .int .i64 most, .bool o.op, .bool true, hv] true)
        else H2.put b (.cells [.int .i64 nx, .int .i64 o.pages, .int .i64 most, .bool o.op, .bool d, hv] true) := by
    subst hc2 hc4 hc5
    refine ⟨_, ?_, rfl⟩
    by_cases k1 : kind = 1
    · subst k1
      have := ((g4.put (l' := [.int .i64 nx, .int .i64 ny, .int .i64 most, .bool o.op, .bool d, hv])).put (l' := [.int .i64 nx, .int .i64 ny, .int .i64 most, .bool true, .bool d, hv]))
      subst hny
      simpa [comeO] using this
    · by_cases k6 : kind = 6
      · subst k6
        have := g4.put (l' := [.int .i64 nx, .int .i64 o.pages, .int .i64 most, .bool false, .bool d, hv])
        simpa [comeO] using this
      · by_cases k7 : kind = 7
        · subst k7
          have := g4.put (l' := [.int .i64 nx, .int .i64 o.pages, .int .i64 most, .bool o.op, .bool true, hv])
          simpa [comeO] using this
        · simpa [comeO, k1, k6, k7] using g4
  obtain ⟨H5, g5, hH5⟩ := h5
  have w4 := wr_s g4.cel 1
  have g4b := g4.put (l' := [.int .i64 nx, .int .i64 ny, .int .i64 most, .bool o.op, .bool d, hv])
  have w4b := wr_s g4b.cel 3
  have w4c := wr_s g4.cel 3
  have w4d := wr_s g4.cel 4
  have hkk : ∀ H', Hs H' R → Arr H' (.sl a1 refs.length z1 e1) 1 refs.length (i64s refs) ∧ Arr H' (.sl a2 keep.length z2 e2) 1 keep.length (bools keep) := fun H' h => ⟨(hR H' h).refs, (hR H' h).keep⟩
  have go : kind = 1 ∨ kind = 6 ∨ kind = 7 ∨ (kind ≠ 1 ∧ kind ≠ 6 ∧ kind ≠ 7) := by omega
  have fln := List.length_filter_le (fun n => !drp refs keep n) o.held
  unfold keepS at hend
  dsimp only at hend
  rcases go with k | k | k | ⟨k1, k6, k7⟩
  · rw [if_pos k] at hH5
    simp -implicitDefEqProofs -dsimp (disch := omega) only [go_sem, dec_t, dec_f, r3, w3, w64, ecast, r4, r4b, w4, w4b, ecast2]
    rw [← hH5]
    refine come_l0 hkk l1 hk (by omega) (Hs.p1 g5) fun lv H6 ex g6 => ?_
    have r6 := rd_s (Hs.p3 g6).cel
    cases stay with
    | false =>
      simp only [Bool.false_eq_true, if_false, List.append_nil] at hend
      have w6 := wr_s (Hs.p2 g6).cel 5
      obtain ⟨la, lc, le, hlv⟩ := g6.own.arr.shape
      have g7 := fun x => (Hs.p2 g6).put (l' := [.int .i64 nx, c2, .int .i64 most, c4, c5, x])
      simp -implicitDefEqProofs -dsimp (disch := omega) only [go_sem, dec_t, dec_f, r6, w6]
      rw [hlv]
      simp -implicitDefEqProofs -dsimp (disch := omega) only [go_sem, dec_t, dec_f, ]
      rw [← hlv]
      exact hend lv _ (Hs.p1 (Hs.p2 (Hs.p2 (g7 lv)).tail).tail)
    | true =>
      simp only [if_true] at hend
      obtain ⟨l7, H7, q7, o7, s7, f7⟩ := app_one (e := 1) (eb := 8) (m := 1) (M := [.int .i64 num]) g6.own rfl rfl (by omega) (by omega)
      have g7 := g6.lst' s7 o7 f7
      have w7 := wr_s (Hs.p2 g7).cel 5
      obtain ⟨la, lc, le, hlv⟩ := g7.own.arr.shape
      have g8 := fun x => (Hs.p2 g7).put (l' := [.int .i64 nx, c2, .int .i64 most, c4, c5, x])
      simp -implicitDefEqProofs -dsimp (disch := omega) only [go_sem, dec_t, dec_f, r6, q7, w7]
      rw [hlv]
      simp -implicitDefEqProofs -dsimp (disch := omega) only [go_sem, dec_t, dec_f, ]
      rw [← hlv]
      refine hend l7 _ ?_
      rw [show ∀ F : List Int, i64s (F ++ [num]) = i64s F ++ [.int .i64 num] from fun F => by simp [i64s], List.length_append]
      exact Hs.p1 (Hs.p2 (Hs.p2 (g8 l7)).tail).tail
  · rw [if_neg (by omega), if_pos k] at hH5
    simp -implicitDefEqProofs -dsimp (disch := omega) only [go_sem, dec_t, dec_f, r3, w3, w64, ecast, r4, r4b, w4c]
    rw [← hH5]
    refine come_l0 hkk l1 hk (by omega) (Hs.p1 g5) fun lv H6 ex g6 => ?_
    have r6 := rd_s (Hs.p3 g6).cel
    cases stay with
    | false =>
      simp only [Bool.false_eq_true, if_false, List.append_nil] at hend
      have w6 := wr_s (Hs.p2 g6).cel 5
      obtain ⟨la, lc, le, hlv⟩ := g6.own.arr.shape
      have g7 := fun x => (Hs.p2 g6).put (l' := [.int .i64 nx, c2, .int .i64 most, c4, c5, x])
      simp -implicitDefEqProofs -dsimp (disch := omega) only [go_sem, dec_t, dec_f, r6, w6]
      rw [hlv]
      simp -implicitDefEqProofs -dsimp (disch := omega) only [go_sem, dec_t, dec_f, ]
      rw [← hlv]
      exact hend lv _ (Hs.p1 (Hs.p2 (Hs.p2 (g7 lv)).tail).tail)
    | true =>
      simp only [if_true] at hend
      obtain ⟨l7, H7, q7, o7, s7, f7⟩ := app_one (e := 1) (eb := 8) (m := 1) (M := [.int .i64 num]) g6.own rfl rfl (by omega) (by omega)
      have g7 := g6.lst' s7 o7 f7
      have w7 := wr_s (Hs.p2 g7).cel 5
      obtain ⟨la, lc, le, hlv⟩ := g7.own.arr.shape
      have g8 := fun x => (Hs.p2 g7).put (l' := [.int .i64 nx, c2, .int .i64 most, c4, c5, x])
      simp -implicitDefEqProofs -dsimp (disch := omega) only [go_sem, dec_t, dec_f, r6, q7, w7]
      rw [hlv]
      simp -implicitDefEqProofs -dsimp (disch := omega) only [go_sem, dec_t, dec_f, ]
      rw [← hlv]
      refine hend l7 _ ?_
      rw [show ∀ F : List Int, i64s (F ++ [num]) = i64s F ++ [.int .i64 num] from fun F => by simp [i64s], List.length_append]
      exact Hs.p1 (Hs.p2 (Hs.p2 (g8 l7)).tail).tail
  · rw [if_neg (by omega), if_neg (by omega), if_pos k] at hH5
    simp -implicitDefEqProofs -dsimp (disch := omega) only [go_sem, dec_t, dec_f, r3, w3, w64, ecast, r4, r4b, w4d]
    rw [← hH5]
    refine come_l0 hkk l1 hk (by omega) (Hs.p1 g5) fun lv H6 ex g6 => ?_
    have r6 := rd_s (Hs.p3 g6).cel
    cases stay with
    | false =>
      simp only [Bool.false_eq_true, if_false, List.append_nil] at hend
      have w6 := wr_s (Hs.p2 g6).cel 5
      obtain ⟨la, lc, le, hlv⟩ := g6.own.arr.shape
      have g7 := fun x => (Hs.p2 g6).put (l' := [.int .i64 nx, c2, .int .i64 most, c4, c5, x])
      simp -implicitDefEqProofs -dsimp (disch := omega) only [go_sem, dec_t, dec_f, r6, w6]
      rw [hlv]
      simp -implicitDefEqProofs -dsimp (disch := omega) only [go_sem, dec_t, dec_f, ]
      rw [← hlv]
      exact hend lv _ (Hs.p1 (Hs.p2 (Hs.p2 (g7 lv)).tail).tail)
    | true =>
      simp only [if_true] at hend
      obtain ⟨l7, H7, q7, o7, s7, f7⟩ := app_one (e := 1) (eb := 8) (m := 1) (M := [.int .i64 num]) g6.own rfl rfl (by omega) (by omega)
      have g7 := g6.lst' s7 o7 f7
      have w7 := wr_s (Hs.p2 g7).cel 5
      obtain ⟨la, lc, le, hlv⟩ := g7.own.arr.shape
      have g8 := fun x => (Hs.p2 g7).put (l' := [.int .i64 nx, c2, .int .i64 most, c4, c5, x])
      simp -implicitDefEqProofs -dsimp (disch := omega) only [go_sem, dec_t, dec_f, r6, q7, w7]
      rw [hlv]
      simp -implicitDefEqProofs -dsimp (disch := omega) only [go_sem, dec_t, dec_f, ]
      rw [← hlv]
      refine hend l7 _ ?_
      rw [show ∀ F : List Int, i64s (F ++ [num]) = i64s F ++ [.int .i64 num] from fun F => by simp [i64s], List.length_append]
      exact Hs.p1 (Hs.p2 (Hs.p2 (g8 l7)).tail).tail
  · rw [if_neg k1, if_neg k6, if_neg k7] at hH5
    simp -implicitDefEqProofs -dsimp (disch := omega) only [go_sem, dec_t, dec_f, r3, w3, w64, ecast, r4, r4b]
    rw [← hH5]
    refine come_l0 hkk l1 hk (by omega) (Hs.p1 g5) fun lv H6 ex g6 => ?_
    have r6 := rd_s (Hs.p3 g6).cel
    cases stay with
    | false =>
      simp only [Bool.false_eq_true, if_false, List.append_nil] at hend
      have w6 := wr_s (Hs.p2 g6).cel 5
      obtain ⟨la, lc, le, hlv⟩ := g6.own.arr.shape
      have g7 := fun x => (Hs.p2 g6).put (l' := [.int .i64 nx, c2, .int .i64 most, c4, c5, x])
      simp -implicitDefEqProofs -dsimp (disch := omega) only [go_sem, dec_t, dec_f, r6, w6]
      rw [hlv]
      simp -implicitDefEqProofs -dsimp (disch := omega) only [go_sem, dec_t, dec_f, ]
      rw [← hlv]
      exact hend lv _ (Hs.p1 (Hs.p2 (Hs.p2 (g7 lv)).tail).tail)
    | true =>
      simp only [if_true] at hend
      obtain ⟨l7, H7, q7, o7, s7, f7⟩ := app_one (e := 1) (eb := 8) (m := 1) (M := [.int .i64 num]) g6.own rfl rfl (by omega) (by omega)
      have g7 := g6.lst' s7 o7 f7
      have w7 := wr_s (Hs.p2 g7).cel 5
      obtain ⟨la, lc, le, hlv⟩ := g7.own.arr.shape
      have g8 := fun x => (Hs.p2 g7).put (l' := [.int .i64 nx, c2, .int .i64 most, c4, c5, x])
      simp -implicitDefEqProofs -dsimp (disch := omega) only [go_sem, dec_t, dec_f, r6, q7, w7]
      rw [hlv]
      simp -implicitDefEqProofs -dsimp (disch := omega) only [go_sem, dec_t, dec_f, ]
      rw [← hlv]
      refine hend l7 _ ?_
      rw [show ∀ F : List Int, i64s (F ++ [num]) = i64s F ++ [.int .i64 num] from fun F => by simp [i64s], List.length_append]
      exact Hs.p1 (Hs.p2 (Hs.p2 (g8 l7)).tail).tail
end
end Go.Ab
namespace Go.Ab
section
variable {P : Prog} {H : Heap} {R : List As} {Q : Out → Heap → Prop}
def ordOk (l : List Sg) : Prop := pgs l ≤ 64 ∧ refRun (pgs l) ⟨0, 0, false, []⟩ false l
theorem ord_file (l : List Sg) : ordOk l ↔ fileOk l := by
  unfold ordOk fileOk
  by_cases h : l = []
  · subst h; simp [refRun]
  · rw [run_iff h]; simp [h]
def od1F (b : Nat) (v : V) (i : Nat) : Fr := ⟨[(0, v), (3, .ptr (some (b, 0))), (4, .int .i64 (i : Nat))], []⟩
theorem ordR_cnt {b : Nat} {v : V} {l : List SgO} {c0 c1 c3 c4 c5 : V} (hR : ∀ H', Hs H' R → FlR H' v l) (hl : l.length ≤ 1000000) (hs : Hs H (Cel b [c0, c1, .int .i64 0, c3, c4, c5] :: R)) {Qp : Post} {s' t'}
    (h1 : ∀ H' ex, Hs H' (Cel b [c0, c1, .int .i64 (pgs (ss l) : Nat), c3, c4, c5] :: R) → Qp (.exit 0) ⟨(0, v) :: (3, .ptr (some (b, 0))) :: ex, []⟩ H') :
    loopL (Call P) [0, 3, 4] burinref17_Ordered_l1 Qp s' t' (od1F b v 0) H := by
  refine loop_cnt l.length (od1F b v) (fun i H => Hs H (Cel b [c0, c1, .int .i64 (pgs ((ss l).take i) : Nat), c3, c4, c5] :: R)) (fun i H K hi hS hx hy hz => ?_) 0 H (Nat.zero_le _) (by simpa [pgs] using hs)
  unfold od1F
  by_cases hlt : i < l.length
  · obtain ⟨vb, vo, vc, rfl, r7, rk, ok⟩ := (hR H hS.tail).at hlt
    have hp := pgs_snoc (ss l) (i := i) (by simpa using hlt)
    have hle := pgs_le ((ss l).take i)
    rw [List.length_take, List.length_map, Nat.min_eq_left hi] at hle
    rw [List.getElem_map] at hp
    have hx := hx hlt
    have r1 := rk 1 (by omega)
    generalize l[i] = q at *
    obtain ⟨s, v1, v2, v3⟩ := q
    unfold SgO.cs at r1
    dsimp only at r1 hp
    rw [show (s.cells v1 v2 v3)[1]? = some (.int .i64 s.kind) from rfl] at r1
    generalize pgs ((ss l).take i) = k at *
    have rb := rd_s hS.cel
    have wb := wr_s hS.cel 2
    have ek : (k : Int) + 1 = ((k + 1 : Nat) : Int) := by omega
    by_cases k1 : s.kind = 1
    · rw [if_pos k1] at hp
      simp -implicitDefEqProofs -dsimp (disch := omega) only [go_sem, dec_t, dec_f, burinref17_Ordered_l1, Int.toNat_natCast, r1, rb, w64, wb, ek, cadd1]
      refine hx _ ?_
      rw [hp]
      exact hS.put
    · rw [if_neg k1] at hp
      simp -implicitDefEqProofs -dsimp (disch := omega) only [go_sem, dec_t, dec_f, burinref17_Ordered_l1, Int.toNat_natCast, r1, w64, cadd1]
      refine hx _ ?_
      rw [hp]
      exact hS
  · have : i = l.length := by omega
    subst this
    rw [List.take_of_length_le (by simp)] at hS
    obtain ⟨a, c, e, rfl⟩ := (hR H hS.tail).arr.shape
    simp -implicitDefEqProofs -dsimp (disch := omega) only [go_sem, dec_t, dec_f, burinref17_Ordered_l1]
    rw [hy]
    exact h1 H _ hS
def od0F (b : Nat) (v : V) (i : Nat) : Fr := ⟨[(0, v), (3, .ptr (some (b, 0))), (5, .int .i64 (i : Nat))], []⟩
set_option maxHeartbeats 1000000 in
theorem ordR_run (hp : HasRf17 P) (hr : HasRf16 P) {b most : Nat} {v : V} {l : List SgO} {o : OSt} {hv : V} (ok : o.Ok most) (on : o.next = 0) (hm : most ≤ 1000000) (hR : ∀ H', Hs H' R → FlR H' v l) (hl : l.length ≤ 1000000) (hs : Hs H (Lst hv 1 o.held.length (i64s o.held) :: Cel b (refC most o false hv) :: R)) {Qp : Post} {s' t'}
    (h1 : ∀ oi d hv H' ex, (refRun most o false (ss l) ↔ d = true) → Hs H' (Lst hv 1 oi.held.length (i64s oi.held) :: Cel b (refC most oi d hv) :: R) → Qp (.exit 2) ⟨(0, v) :: (3, .ptr (some (b, 0))) :: ex, []⟩ H')
    (h2 : ¬ refRun most o false (ss l) → ∀ H' ex, Hs H' R → Qp .ret ⟨(2, .bool false) :: ex, []⟩ H') :
    loopL (Call P) [0, 3, 5] burinref17_Ordered_l0 Qp s' t' (od0F b v 0) H := by
  refine loop_cnt l.length (od0F b v) (fun i H => ∃ (oi : OSt) (d : Bool) (hv : V), oi.Ok most ∧ oi.next = i ∧ (refRun most o false (ss l) ↔ refRun most oi d ((ss l).drop i)) ∧ Hs H (Lst hv 1 oi.held.length (i64s oi.held) :: Cel b (refC most oi d hv) :: R)) (fun i H K hi hS hx hy hz => ?_) 0 H (Nat.zero_le _) ⟨o, false, hv, ok, on, Iff.rfl, hs⟩
  obtain ⟨oi, d, hv, oki, oni, hrun, hS⟩ := hS
  unfold od0F
  have rb := rd_s (Hs.p1 hS).cel
  by_cases hlt : i < l.length
  rotate_left
  · have : i = l.length := by omega
    subst this
    rw [List.drop_of_length_le (by simp)] at hrun
    obtain ⟨a, c, e, rfl⟩ := (hR H hS.tail.tail).arr.shape
    simp -implicitDefEqProofs -dsimp (disch := omega) only [go_sem, dec_t, dec_f, burinref17_Ordered_l0]
    rw [hy]
    exact h1 oi d hv H _ hrun hS
  obtain ⟨vb, vo, vc, rfl, r7, rk, sok⟩ := (hR H hS.tail.tail).at hlt
  have hd : (ss l).drop i = l[i].s :: (ss l).drop (i + 1) := by rw [List.drop_eq_getElem_cons (by simpa using hlt), List.getElem_map]
  rw [hd, refRun] at hrun
  have hx := hx hlt
  have sokR : ∀ H', Hs H' R → SgOk H' l[i] := fun H' h => (hR H' h).ok _ (List.getElem_mem hlt)
  have r7R : ∀ H', Hs H' R → rd H' (some 7) vb (vo + i * 7) = some (.agg l[i].cs) := fun H' h => by
    obtain ⟨b', o', c', e, r, _⟩ := (hR H' h).at hlt
    cases e
    exact r
  generalize (ss l).drop (i + 1) = rest at *
  generalize l[i] = q at *
  obtain ⟨s, v1, v2, v3⟩ := q
  unfold SgO.cs at r7 r7R
  dsimp only at r7 r7R hrun
  unfold SgOk at sok sokR
  dsimp only at sok sokR
  unfold refC at rb
  cases d with
  | true =>
    simp -implicitDefEqProofs -dsimp (disch := omega) only [go_sem, dec_t, dec_f, burinref17_Ordered_l0, rb]
    rw [hz]
    exact h2 (fun k => by have := (hrun.1 k).1; cases this) _ _ hS.tail.tail
  | false =>
    simp -implicitDefEqProofs -dsimp (disch := omega) only [go_sem, dec_t, dec_f, burinref17_Ordered_l0, rb, Int.toNat_natCast, r7]
    refine mayR_ct hr sok fun H2 s2 => ?_
    have g2 := hS.keep s2
    by_cases hM : May s
    rotate_left
    · rw [mayB_f hM]
      simp -implicitDefEqProofs -dsimp (disch := omega) only [go_sem, dec_t, dec_f, ]
      rw [hz]
      exact h2 (fun k => hM (hrun.1 k).2.1) _ _ g2.tail.tail
    rw [mayB_t hM]
    have r7' := r7R H2 g2.tail.tail
    simp -implicitDefEqProofs -dsimp (disch := omega) only [go_sem, dec_t, dec_f, Int.toNat_natCast, r7']
    refine come_ct hp oki hm (by omega) sokR hM.keep g2 (fun he hv' H' h => ?_) (fun he H' h => ?_)
    · simp -implicitDefEqProofs -dsimp (disch := omega) only [go_sem, dec_t, dec_f, w64, cadd1]
      refine hx _ ⟨comeO oi s, decide (s.kind = 7), hv', oki.come he, by simp [comeO, oni], ⟨fun q => (hrun.1 q).2.2.2, fun q => hrun.2 ⟨rfl, hM, he, q⟩⟩, ?_⟩
      have e : (if s.kind = 7 then true else false) = decide (s.kind = 7) := by by_cases k : s.kind = 7 <;> simp [k]
      rw [e] at h
      exact h
    · simp -implicitDefEqProofs -dsimp (disch := omega) only [go_sem, dec_t, dec_f, dec_t he]
      rw [hz]
      exact h2 (fun k => he (hrun.1 k).2.2.1) _ _ h
open Classical in
theorem ordered_ct (hp : HasRf17 P) (hr : HasRf16 P) {v : V} {l : List SgO} (hR : ∀ H', Hs H' R → FlR H' v l) (hl : l.length ≤ 1000000) (hs : Hs H R) (hQ : ∀ H', Hs H' R → Q (.ret (.bool (decide (fileOk (ss l))))) H') : Call P 227 [v] H Q := by
  refine call_of hp.h_burinref17_Ordered rfl ?_
  simp only [← ord_file] at hQ
  have g1 := hs.alloc (l := [.int .i64 0, .int .i64 0, .int .i64 0, .bool false, .bool false, .sl none 0 0 0])
  simp -implicitDefEqProofs -dsimp (disch := omega) only [go_sem, dec_t, dec_f, ]
  generalize H.new _ = H1 at *
  generalize H.next = b at *
  refine ordR_cnt hR hl g1 fun H2 ex g2 => ?_
  have r2 := rd_s g2.cel
  have hpl := pgs_le (ss l)
  rw [List.length_map] at hpl
  by_cases k1 : pgs (ss l) ≤ 64
  rotate_left
  · rw [decide_eq_false (show ¬ ordOk (ss l) from fun k => k1 k.1)] at hQ
    simp -implicitDefEqProofs -dsimp (disch := omega) only [go_sem, dec_t, dec_f, r2]
    exact hQ _ g2.tail
  simp -implicitDefEqProofs -dsimp (disch := omega) only [go_sem, dec_t, dec_f, r2]
  refine ordR_run (o := ⟨0, 0, false, []⟩) hp hr (OSt.ok0 (pgs (ss l))) rfl (by omega) hR hl ((g2.lst (Same.refl _ _) (Or.inl ⟨rfl, rfl, rfl⟩) fun b h => h.elim)) (fun oi d hv H3 ex hd g3 => ?_) (fun hno H3 ex g3 => ?_)
  · have r3 := rd_s (Hs.p1 g3).cel
    unfold refC at r3
    have hQ := hQ _ g3.tail.tail
    rw [show decide (ordOk (ss l)) = d by
      cases d with
      | true => exact decide_eq_true ⟨k1, hd.2 rfl⟩
      | false => exact decide_eq_false fun k => by have := hd.1 k.2; cases this] at hQ
    simp -implicitDefEqProofs -dsimp (disch := omega) only [go_sem, dec_t, dec_f, r3]
    exact hQ
  · rw [decide_eq_false (show ¬ ordOk (ss l) from fun k => hno k.2)] at hQ
    simp -implicitDefEqProofs -dsimp (disch := omega) only [go_sem, dec_t, dec_f, ]
    exact hQ _ g3
end
end Go.Ab
namespace Go.Ab
section
variable {P : Prog} {H : Heap} {R : List As} {Q : Out → Heap → Prop}
structure WyX where
  i : Nat
  f : V
def WyX.fr (t : Nat) (v : V) (rnd : Bool) (x : WyX) : Fr := ⟨[(0, v), (1, .bool rnd), (8, x.f), (t, .int .i64 (x.i : Nat))], []⟩
end
end Go.Ab
namespace Go.Ab
-- burinlaw17_FileFaults: 240, parameters ?; loops burinlaw17_FileFaults_l0 [3 ?, 5 ?, 6 ?]
-- burinlaw17_bytes: 238, parameters ? ?; loops burinlaw17_bytes_l0 [0 ?, 1 ?, 5 ?, 6 ?, 7 ?, 8 ?]
-- burinlaw17_has: 239, parameters l n; loops burinlaw17_has_l0 [0 l, 1 n, 5 i]
def burinlaw17_FileFaults_l0 : Cd := .seq (.seq (.reg false [3, 5, 6, 127] [⟨some 126, .mv (.t 6), none, 0, []⟩,
    ⟨some 127, .bin .lss .num (.t 126) (.c (.int .i64 2)), none, 0, []⟩])
  (.cond (.t 127) (.skip)
  (.exit 1)))
  (.seq (.block 2 (.seq (.reg false [3, 5, 6, 7] [⟨some 130, .mv (.t 3), none, 0, []⟩,
    ⟨some 131, .mv (.t 6), none, 0, []⟩,
    ⟨some 132, .bin .eql .num (.t 131) (.c (.int .i64 1)), none, 0, []⟩,
    ⟨some 133, .call (.f 238) [(.t 130), (.t 132)], none, 0, []⟩,
    ⟨some 7, .mv (.t 133), none, 0, []⟩])
  (.seq (.seq (.reg false [3, 5, 6, 7, 135] [⟨some 134, .mv (.t 7), none, 0, []⟩,
    ⟨some 135, .bin .eql .slice (.t 134) (.c (.sl none 0 0 0)), none, 0, []⟩])
  (.cond (.t 135) (.seq (.reg false [2] [⟨some 136, .call (.f 201) [], none, 0, []⟩,
    ⟨some 2, .mv (.t 136), none, 0, []⟩])
  (.ret))
  (.skip)))
  (.seq (.reg false [3, 5, 6, 10] [⟨some 138, .mv (.t 7), none, 0, []⟩,
    ⟨some 139, .call (.f 236) [(.t 138)], none, 0, []⟩,
    ⟨some 137, .mv (.t 139), none, 0, []⟩,
    ⟨some 140, .ext 0 (.t 137), none, 0, []⟩,
    ⟨some 141, .ext 1 (.t 137), none, 0, []⟩,
    ⟨some 142, .ext 2 (.t 137), none, 0, []⟩,
    ⟨some 8, .mv (.t 140), none, 0, []⟩,
    ⟨some 9, .mv (.t 141), none, 0, []⟩,
    ⟨some 10, .mv (.t 142), none, 0, []⟩])
  (.seq (.reg false [3, 5, 6, 145] [⟨some 143, .mv (.t 10), none, 0, []⟩,
    ⟨some 144, .mv (.t 5), none, 0, []⟩,
    ⟨some 145, .bin .neq .num (.t 143) (.t 144), none, 0, []⟩])
  (.cond (.t 145) (.seq (.reg false [2] [⟨some 2, .mv (.c (.bool false)), none, 0, []⟩])
  (.ret))
  (.skip)))))))
  (.reg false [3, 5, 6] [⟨some 128, .mv (.t 6), none, 0, []⟩,
    ⟨some 129, .bin .add .num (.t 128) (.c (.int .i64 1)), none, 0, []⟩,
    ⟨some 6, .mv (.t 129), none, 0, []⟩]))
/-- burin/burinlaw17.FileFaults -/
def burinlaw17_FileFaults : AFun := ⟨1, 147, true, [.t 2],
  .seq (.reg false [1] [⟨some 1, .box 3 (.t 0), none, 0, []⟩,
    ⟨some 2, .mv (.c (.bool false)), none, 0, []⟩])
  (.seq (.seq (.reg false [1, 26] [⟨some 11, .fad 0 (.t 1), none, 0, []⟩,
    ⟨some 12, .load none (.t 11), none, 0, []⟩,
    ⟨some 13, .call (.f 233) [(.t 12)], none, 0, []⟩,
    ⟨some 14, .un .not (.t 13), none, 0, []⟩,
    ⟨some 15, .mv (.t 14), none, 0, []⟩,
    ⟨some 16, .fad 0 (.t 1), some (15, false), 0, []⟩,
    ⟨some 17, .load none (.t 16), some (15, false), 0, []⟩,
    ⟨some 18, .len none (.t 17), some (15, false), 0, []⟩,
    ⟨some 19, .bin .eql .num (.t 18) (.c (.int .i64 0)), some (15, false), 0, []⟩,
    ⟨some 20, .pick (.t 15) (.c (.bool true)) (.t 19), none, 0, []⟩,
    ⟨some 21, .mv (.t 20), none, 0, []⟩,
    ⟨some 22, .fad 0 (.t 1), some (21, false), 0, []⟩,
    ⟨some 23, .load none (.t 22), some (21, false), 0, []⟩,
    ⟨some 24, .call (.f 227) [(.t 23)], some (21, false), 0, []⟩,
    ⟨some 25, .un .not (.t 24), some (21, false), 0, []⟩,
    ⟨some 26, .pick (.t 21) (.c (.bool true)) (.t 25), none, 0, []⟩])
  (.cond (.t 26) (.seq (.reg false [2] [⟨some 27, .call (.f 201) [], none, 0, []⟩,
    ⟨some 2, .mv (.t 27), none, 0, []⟩])
  (.ret))
  (.skip)))
  (.seq (.reg false [1, 3] [⟨some 28, .fad 0 (.t 1), none, 0, []⟩,
    ⟨some 29, .load none (.t 28), none, 0, []⟩,
    ⟨some 30, .call (.f 174) [(.t 29)], none, 0, []⟩,
    ⟨some 3, .mv (.t 30), none, 0, []⟩])
  (.seq (.reg false [1, 3, 4] [⟨some 31, .fad 1 (.t 1), none, 0, []⟩,
    ⟨some 32, .load none (.t 31), none, 0, []⟩,
    ⟨some 33, .mv (.t 3), none, 0, []⟩,
    ⟨some 34, .len none (.t 33), none, 0, []⟩,
    ⟨some 35, .call (.f 29) [(.t 32), (.t 34)], none, 0, []⟩,
    ⟨some 4, .mv (.t 35), none, 0, []⟩])
  (.seq (.reg false [1, 3, 4, 5] [⟨some 5, .mv (.c (.int .i64 161)), none, 0, []⟩])
  (.seq (.seq (.reg false [1, 3, 4, 5, 38] [⟨some 36, .fad 2 (.t 1), none, 0, []⟩,
    ⟨some 37, .load none (.t 36), none, 0, []⟩,
    ⟨some 38, .call (.f 29) [(.t 37), (.c (.int .i64 3))], none, 0, []⟩])
  (.block 0 (.seq (.reg false [1, 3, 4, 5, 38, 88] [⟨some 89, .bin .eql .num (.t 38) (.c (.int .i64 0)), none, 0, []⟩,
    ⟨some 88, .mv (.t 89), none, 0, []⟩])
  (.cond (.t 88) (.reg false [3, 5] [⟨some 90, .mv (.t 3), none, 0, []⟩,
    ⟨some 91, .mv (.t 4), none, 0, []⟩,
    ⟨some 92, .iad none 7 (.t 90) (.t 91), none, 0, []⟩,
    ⟨some 93, .fad 0 (.t 92), none, 0, []⟩,
    ⟨some 94, .load none (.t 93), none, 0, []⟩,
    ⟨some 95, .bin .add .num (.t 94) (.c (.int .i64 1)), none, 0, []⟩,
    ⟨some 96, .iad none 7 (.t 90) (.t 91), none, 0, []⟩,
    ⟨some 97, .fad 0 (.t 96), none, 0, []⟩,
    ⟨none, .store 1 (.t 97) (.t 95), none, 0, []⟩])
  (.seq (.reg false [1, 3, 4, 98] [⟨some 99, .bin .eql .num (.t 38) (.c (.int .i64 1)), none, 0, []⟩,
    ⟨some 98, .mv (.t 99), none, 0, []⟩])
  (.cond (.t 98) (.seq (.seq (.reg false [3, 4, 113] [⟨some 100, .mv (.t 3), none, 0, []⟩,
    ⟨some 101, .mv (.t 4), none, 0, []⟩,
    ⟨some 102, .iad none 7 (.t 100) (.t 101), none, 0, []⟩,
    ⟨some 103, .fad 1 (.t 102), none, 0, []⟩,
    ⟨some 104, .load none (.t 103), none, 0, []⟩,
    ⟨some 105, .bin .eql .num (.t 104) (.c (.int .i64 7)), none, 0, []⟩,
    ⟨some 106, .mv (.t 105), none, 0, []⟩,
    ⟨some 107, .mv (.t 3), some (106, false), 0, []⟩,
    ⟨some 108, .mv (.t 4), some (106, false), 0, []⟩,
    ⟨some 109, .iad none 7 (.t 107) (.t 108), some (106, false), 0, []⟩,
    ⟨some 110, .fad 1 (.t 109), some (106, false), 0, []⟩,
    ⟨some 111, .load none (.t 110), some (106, false), 0, []⟩,
    ⟨some 112, .bin .eql .num (.t 111) (.c (.int .i64 2)), some (106, false), 0, []⟩,
    ⟨some 113, .pick (.t 106) (.c (.bool true)) (.t 112), none, 0, []⟩])
  (.cond (.t 113) (.seq (.reg false [2] [⟨some 114, .call (.f 201) [], none, 0, []⟩,
    ⟨some 2, .mv (.t 114), none, 0, []⟩])
  (.ret))
  (.skip)))
  (.seq (.reg false [3] [⟨some 115, .mv (.t 3), none, 0, []⟩,
    ⟨some 116, .mv (.t 4), none, 0, []⟩,
    ⟨some 117, .mv (.t 3), none, 0, []⟩,
    ⟨some 118, .mv (.t 4), none, 0, []⟩,
    ⟨some 119, .iad none 7 (.t 117) (.t 118), none, 0, []⟩,
    ⟨some 120, .fad 2 (.t 119), none, 0, []⟩,
    ⟨some 121, .load none (.t 120), none, 0, []⟩,
    ⟨some 122, .bin .rem .num (.t 121) (.c (.int .i64 64)), none, 0, []⟩,
    ⟨some 123, .bin .add .num (.t 122) (.c (.int .i64 1)), none, 0, []⟩,
    ⟨some 124, .iad none 7 (.t 115) (.t 116), none, 0, []⟩,
    ⟨some 125, .fad 2 (.t 124), none, 0, []⟩,
    ⟨none, .store 1 (.t 125) (.t 123), none, 0, []⟩])
  (.reg false [3, 5] [⟨some 5, .mv (.c (.int .i64 151)), none, 0, []⟩])))
  (.seq (.seq (.reg false [3, 4, 64] [⟨some 39, .mv (.t 3), none, 0, []⟩,
    ⟨some 40, .mv (.t 4), none, 0, []⟩,
    ⟨some 41, .iad none 7 (.t 39) (.t 40), none, 0, []⟩,
    ⟨some 42, .fad 1 (.t 41), none, 0, []⟩,
    ⟨some 43, .load none (.t 42), none, 0, []⟩,
    ⟨some 44, .bin .neq .num (.t 43) (.c (.int .i64 3)), none, 0, []⟩,
    ⟨some 45, .mv (.t 44), none, 0, []⟩,
    ⟨some 46, .mv (.t 4), some (45, false), 0, []⟩,
    ⟨some 47, .bin .eql .num (.t 46) (.c (.int .i64 0)), some (45, false), 0, []⟩,
    ⟨some 48, .pick (.t 45) (.c (.bool true)) (.t 47), none, 0, []⟩,
    ⟨some 49, .mv (.t 48), none, 0, []⟩,
    ⟨some 50, .mv (.t 3), some (49, false), 0, []⟩,
    ⟨some 51, .mv (.t 4), some (49, false), 0, []⟩,
    ⟨some 52, .iad none 7 (.t 50) (.t 51), some (49, false), 0, []⟩,
    ⟨some 53, .fad 3 (.t 52), some (49, false), 0, []⟩,
    ⟨some 54, .load none (.t 53), some (49, false), 0, []⟩,
    ⟨some 55, .call (.f 239) [(.t 54), (.c (.int .i64 0))], some (49, false), 0, []⟩,
    ⟨some 56, .pick (.t 49) (.c (.bool true)) (.t 55), none, 0, []⟩,
    ⟨some 57, .mv (.t 56), none, 0, []⟩,
    ⟨some 58, .fad 0 (.t 1), some (57, false), 0, []⟩,
    ⟨some 59, .load none (.t 58), some (57, false), 0, []⟩,
    ⟨some 60, .iad none 7 (.t 59) (.c (.int .i64 0)), some (57, false), 0, []⟩,
    ⟨some 61, .fad 1 (.t 60), some (57, false), 0, []⟩,
    ⟨some 62, .load none (.t 61), some (57, false), 0, []⟩,
    ⟨some 63, .bin .eql .num (.t 62) (.c (.int .i64 2)), some (57, false), 0, []⟩,
    ⟨some 64, .pick (.t 57) (.c (.bool true)) (.t 63), none, 0, []⟩])
  (.cond (.t 64) (.seq (.reg false [2] [⟨some 65, .call (.f 201) [], none, 0, []⟩,
    ⟨some 2, .mv (.t 65), none, 0, []⟩])
  (.ret))
  (.skip)))
  (.seq (.reg false [3, 4] [⟨some 66, .mv (.t 3), none, 0, []⟩,
    ⟨some 67, .mv (.t 4), none, 0, []⟩,
    ⟨some 68, .bslice 1 [.int .i64 0] 1 [(0, (.c (.int .i64 0)))], none, 0, []⟩,
    ⟨some 69, .mv (.t 3), none, 0, []⟩,
    ⟨some 70, .mv (.t 4), none, 0, []⟩,
    ⟨some 71, .iad none 7 (.t 69) (.t 70), none, 0, []⟩,
    ⟨some 72, .fad 3 (.t 71), none, 0, []⟩,
    ⟨some 73, .load none (.t 72), none, 0, []⟩,
    ⟨some 74, .append 1 8 (.t 68) (.t 73), none, 0, []⟩,
    ⟨some 75, .iad none 7 (.t 66) (.t 67), none, 0, []⟩,
    ⟨some 76, .fad 3 (.t 75), none, 0, []⟩,
    ⟨none, .store 1 (.t 76) (.t 74), none, 0, []⟩])
  (.seq (.reg false [3] [⟨some 77, .mv (.t 3), none, 0, []⟩,
    ⟨some 78, .mv (.t 4), none, 0, []⟩,
    ⟨some 79, .bslice 1 [.bool false] 1 [(0, (.c (.bool true)))], none, 0, []⟩,
    ⟨some 80, .mv (.t 3), none, 0, []⟩,
    ⟨some 81, .mv (.t 4), none, 0, []⟩,
    ⟨some 82, .iad none 7 (.t 80) (.t 81), none, 0, []⟩,
    ⟨some 83, .fad 4 (.t 82), none, 0, []⟩,
    ⟨some 84, .load none (.t 83), none, 0, []⟩,
    ⟨some 85, .append 1 1 (.t 79) (.t 84), none, 0, []⟩,
    ⟨some 86, .iad none 7 (.t 77) (.t 78), none, 0, []⟩,
    ⟨some 87, .fad 4 (.t 86), none, 0, []⟩,
    ⟨none, .store 1 (.t 87) (.t 85), none, 0, []⟩])
  (.reg false [3, 5] [⟨some 5, .mv (.c (.int .i64 162)), none, 0, []⟩]))))))))))
  (.seq (.seq (.reg false [3, 5, 6] [⟨some 6, .mv (.c (.int .i64 0)), none, 0, []⟩])
  (.block 1 (.loop [3, 5, 6] burinlaw17_FileFaults_l0)))
  (.seq (.reg false [2] [⟨some 146, .call (.f 201) [], none, 0, []⟩,
    ⟨some 2, .mv (.t 146), none, 0, []⟩])
  (.ret))))))))⟩

def burinlaw17_bytes_l0 : Cd := .seq (.seq (.reg false [0, 1, 5, 6, 7, 8, 15] [⟨some 12, .mv (.t 8), none, 0, []⟩,
    ⟨some 13, .mv (.t 0), none, 0, []⟩,
    ⟨some 14, .len none (.t 13), none, 0, []⟩,
    ⟨some 15, .bin .lss .num (.t 12) (.t 14), none, 0, []⟩])
  (.cond (.t 15) (.skip)
  (.exit 0)))
  (.seq (.block 1 (.seq (.reg false [0, 1, 5, 6, 7, 8, 9, 10] [⟨some 19, .mv (.t 0), none, 0, []⟩,
    ⟨some 20, .mv (.t 8), none, 0, []⟩,
    ⟨some 21, .iad none 7 (.t 19) (.t 20), none, 0, []⟩,
    ⟨some 22, .load (some 7) (.t 21), none, 0, []⟩,
    ⟨some 23, .call (.f 172) [(.t 22)], none, 0, []⟩,
    ⟨some 18, .mv (.t 23), none, 0, []⟩,
    ⟨some 24, .ext 0 (.t 18), none, 0, []⟩,
    ⟨some 25, .ext 1 (.t 18), none, 0, []⟩,
    ⟨some 9, .mv (.t 24), none, 0, []⟩,
    ⟨some 10, .mv (.t 25), none, 0, []⟩])
  (.seq (.seq (.reg false [0, 1, 5, 6, 7, 8, 9, 27] [⟨some 26, .mv (.t 10), none, 0, []⟩,
    ⟨some 27, .bin .neq .num (.t 26) (.c (.int .i64 0)), none, 0, []⟩])
  (.cond (.t 27) (.seq (.reg false [4] [⟨some 4, .mv (.c (.sl none 0 0 0)), none, 0, []⟩])
  (.ret))
  (.skip)))
  (.seq (.reg false [0, 1, 5, 6, 7, 8] [⟨some 28, .mv (.t 6), none, 0, []⟩,
    ⟨some 29, .mv (.t 9), none, 0, []⟩,
    ⟨some 30, .append 1 1 (.t 28) (.t 29), none, 0, []⟩,
    ⟨some 6, .mv (.t 30), none, 0, []⟩])
  (.seq (.reg false [0, 1, 5, 6, 7, 8] [⟨some 31, .mv (.t 7), none, 0, []⟩,
    ⟨some 32, .mv (.t 0), none, 0, []⟩,
    ⟨some 33, .mv (.t 8), none, 0, []⟩,
    ⟨some 34, .iad none 7 (.t 32) (.t 33), none, 0, []⟩,
    ⟨some 35, .fad 6 (.t 34), none, 0, []⟩,
    ⟨some 36, .load none (.t 35), none, 0, []⟩,
    ⟨some 37, .append 1 1 (.t 31) (.t 36), none, 0, []⟩,
    ⟨some 7, .mv (.t 37), none, 0, []⟩])
  (.seq (.seq (.reg false [0, 1, 5, 6, 7, 8, 39] [⟨some 38, .mv (.t 1), none, 0, []⟩,
    ⟨some 39, .un .not (.t 38), none, 0, []⟩])
  (.cond (.t 39) (.reg false [0, 1, 5, 6, 7, 8] [⟨some 40, .mv (.t 6), none, 0, []⟩,
    ⟨some 41, .mv (.t 0), none, 0, []⟩,
    ⟨some 42, .mv (.t 8), none, 0, []⟩,
    ⟨some 43, .iad none 7 (.t 41) (.t 42), none, 0, []⟩,
    ⟨some 44, .fad 6 (.t 43), none, 0, []⟩,
    ⟨some 45, .load none (.t 44), none, 0, []⟩,
    ⟨some 46, .append 1 1 (.t 40) (.t 45), none, 0, []⟩,
    ⟨some 6, .mv (.t 46), none, 0, []⟩])
  (.skip)))
  (.seq (.reg false [0, 1, 5, 6, 7, 8, 52] [⟨some 47, .mv (.t 0), none, 0, []⟩,
    ⟨some 48, .mv (.t 8), none, 0, []⟩,
    ⟨some 49, .iad none 7 (.t 47) (.t 48), none, 0, []⟩,
    ⟨some 50, .fad 1 (.t 49), none, 0, []⟩,
    ⟨some 51, .load none (.t 50), none, 0, []⟩,
    ⟨some 52, .bin .eql .num (.t 51) (.c (.int .i64 1)), none, 0, []⟩])
  (.cond (.t 52) (.reg false [0, 1, 5, 6, 7, 8] [⟨some 53, .mv (.t 5), none, 0, []⟩,
    ⟨some 54, .bin .add .num (.t 53) (.c (.int .i64 1)), none, 0, []⟩,
    ⟨some 5, .mv (.t 54), none, 0, []⟩])
  (.skip)))))))))
  (.reg false [0, 1, 5, 6, 7, 8] [⟨some 16, .mv (.t 8), none, 0, []⟩,
    ⟨some 17, .bin .add .num (.t 16) (.c (.int .i64 1)), none, 0, []⟩,
    ⟨some 8, .mv (.t 17), none, 0, []⟩]))
/-- burin/burinlaw17.bytes -/
def burinlaw17_bytes : AFun := ⟨2, 69, true, [.t 4],
  .seq (.reg false [0, 1] [⟨some 4, .mv (.c (.sl none 0 0 0)), none, 0, []⟩])
  (.seq (.reg false [0, 1, 5] [⟨some 5, .mv (.c (.int .i64 0)), none, 0, []⟩])
  (.seq (.reg false [0, 1, 5, 6, 7] [⟨some 6, .mv (.c (.sl none 0 0 0)), none, 0, []⟩,
    ⟨some 7, .mv (.c (.sl none 0 0 0)), none, 0, []⟩])
  (.seq (.seq (.reg false [0, 1, 5, 6, 7, 8] [⟨some 8, .mv (.c (.int .i64 0)), none, 0, []⟩])
  (.block 0 (.loop [0, 1, 5, 6, 7, 8] burinlaw17_bytes_l0)))
  (.seq (.reg false [1, 6, 7, 11] [⟨some 55, .mv (.t 5), none, 0, []⟩,
    ⟨some 56, .conv .u8 (.t 55), none, 0, []⟩,
    ⟨some 57, .bslice 1 [.int .u8 0] 6 [(0, (.c (.int .u8 66))), (1, (.c (.int .u8 85))), (2, (.c (.int .u8 82))), (3, (.c (.int .u8 1))), (4, (.c (.int .u8 0))), (5, (.t 56))], none, 0, []⟩,
    ⟨some 11, .mv (.t 57), none, 0, []⟩])
  (.seq (.seq (.reg false [6, 7, 11, 58] [⟨some 58, .mv (.t 1), none, 0, []⟩])
  (.cond (.t 58) (.seq (.reg false [6, 7, 11] [⟨some 59, .mv (.t 11), none, 0, []⟩,
    ⟨some 60, .iad none 1 (.t 59) (.c (.int .i64 4)), none, 0, []⟩,
    ⟨none, .store 1 (.t 60) (.c (.int .u8 1)), none, 0, []⟩])
  (.seq (.reg false [4] [⟨some 61, .mv (.t 11), none, 0, []⟩,
    ⟨some 62, .mv (.t 6), none, 0, []⟩,
    ⟨some 63, .append 1 1 (.t 61) (.t 62), none, 0, []⟩,
    ⟨some 64, .mv (.t 7), none, 0, []⟩,
    ⟨some 65, .append 1 1 (.t 63) (.t 64), none, 0, []⟩,
    ⟨some 4, .mv (.t 65), none, 0, []⟩])
  (.ret)))
  (.skip)))
  (.seq (.reg false [4] [⟨some 66, .mv (.t 11), none, 0, []⟩,
    ⟨some 67, .mv (.t 6), none, 0, []⟩,
    ⟨some 68, .append 1 1 (.t 66) (.t 67), none, 0, []⟩,
    ⟨some 4, .mv (.t 68), none, 0, []⟩])
  (.ret)))))))⟩

def burinlaw17_has_l0 : Cd := .seq (.seq (.reg false [0, 1, 5, 9] [⟨some 6, .mv (.t 5), none, 0, []⟩,
    ⟨some 7, .mv (.t 0), none, 0, []⟩,
    ⟨some 8, .len none (.t 7), none, 0, []⟩,
    ⟨some 9, .bin .lss .num (.t 6) (.t 8), none, 0, []⟩])
  (.cond (.t 9) (.skip)
  (.exit 0)))
  (.seq (.block 1 (.seq (.reg false [0, 1, 5, 17] [⟨some 12, .mv (.t 0), none, 0, []⟩,
    ⟨some 13, .mv (.t 5), none, 0, []⟩,
    ⟨some 14, .iad none 1 (.t 12) (.t 13), none, 0, []⟩,
    ⟨some 15, .load none (.t 14), none, 0, []⟩,
    ⟨some 16, .mv (.t 1), none, 0, []⟩,
    ⟨some 17, .bin .eql .num (.t 15) (.t 16), none, 0, []⟩])
  (.cond (.t 17) (.seq (.reg false [4] [⟨some 4, .mv (.c (.bool true)), none, 0, []⟩])
  (.ret))
  (.skip))))
  (.reg false [0, 1, 5] [⟨some 10, .mv (.t 5), none, 0, []⟩,
    ⟨some 11, .bin .add .num (.t 10) (.c (.int .i64 1)), none, 0, []⟩,
    ⟨some 5, .mv (.t 11), none, 0, []⟩]))
/-- burin/burinlaw17.has -/
def burinlaw17_has : AFun := ⟨2, 18, true, [.t 4],
  .seq (.reg false [0, 1] [⟨some 4, .mv (.c (.bool false)), none, 0, []⟩])
  (.seq (.seq (.reg false [0, 1, 5] [⟨some 5, .mv (.c (.int .i64 0)), none, 0, []⟩])
  (.block 0 (.loop [0, 1, 5] burinlaw17_has_l0)))
  (.seq (.reg false [4] [⟨some 4, .mv (.c (.bool false)), none, 0, []⟩])
  (.ret)))⟩

/-- A program that has them. -/
structure HasL17Faults (P : Prog) : Prop where
  h_burinlaw17_FileFaults : P 240 = some burinlaw17_FileFaults
  h_burinlaw17_bytes : P 238 = some burinlaw17_bytes
  h_burinlaw17_has : P 239 = some burinlaw17_has

end Go.Ab
namespace Go.Ab
section
variable {P : Prog} {H : Heap} {R : List As} {Q : Out → Heap → Prop}
def has17F (v : V) (n : Int) (i : Nat) : Fr := ⟨[(0, v), (1, .int .i64 n), (5, .int .i64 (i : Nat))], []⟩
theorem has17_ct (hp : HasL17Faults P) {v : V} {l : List Int} {n : Int} (hv : Arr H v 1 l.length (i64s l)) (hl : l.length ≤ 140737488355328) (hQ : Q (.ret (.bool (decide (n ∈ l)))) H) : Call P 239 [v, .int .i64 n] H Q := by
  obtain ⟨a1, c1, e1, hs1⟩ := hv.shape
  subst hs1
  refine call_of hp.h_burinlaw17_has rfl ?_
  simp -implicitDefEqProofs -dsimp (disch := omega) only [go_sem, dec_t, dec_f, ]
  refine loop_cnt l.length (has17F (.sl a1 l.length c1 e1) n) (fun i H' => H' = H ∧ n ∉ l.take i) (fun i H' K hi hS hn hx1 hx2 => ?_) 0 H (Nat.zero_le _) ⟨rfl, by simp⟩
  obtain ⟨rfl, ht⟩ := hS
  unfold has17F
  by_cases hlt : i < l.length
  · obtain ⟨b3, o3, c3, hv3, hr3⟩ := arr_int hv hlt
    cases hv3
    have t1 := List.take_succ_eq_append_getElem hlt
    have hm : l[i] ∈ l := List.getElem_mem hlt
    by_cases hne : l[i] = n
    · rw [hne] at hm
      rw [dec_t hm] at hQ
      generalize l[i] = z at *
      simp -implicitDefEqProofs -dsimp (disch := omega) only [go_sem, dec_t, dec_f, burinlaw17_has_l0, Int.toNat_natCast, Nat.mul_one, hr3]
      rw [hx2]
      simp -implicitDefEqProofs -dsimp (disch := omega) only [go_sem, dec_t, dec_f, ]
      exact hQ
    · have hx := hn hlt H' ⟨rfl, by rw [t1]; simp only [List.mem_append, List.mem_singleton, not_or]; exact ⟨ht, fun e => hne e.symm⟩⟩
      generalize l[i] = z at *
      simp -implicitDefEqProofs -dsimp (disch := omega) only [go_sem, dec_t, dec_f, burinlaw17_has_l0, Int.toNat_natCast, Nat.mul_one, hr3, hne, w64, cadd1]
      exact hx
  · have : i = l.length := by omega
    subst this
    rw [List.take_length] at ht
    rw [dec_f ht] at hQ
    simp -implicitDefEqProofs -dsimp (disch := omega) only [go_sem, dec_t, dec_f, burinlaw17_has_l0]
    rw [hx1]
    simp -implicitDefEqProofs -dsimp (disch := omega) only [go_sem, dec_t, dec_f, ]
    exact hQ
theorem rawB_eq (rnd : Bool) (l : List Sg) : rawB rnd l = l.flatMap (partB rnd) ++ tailB rnd l := by
  cases rnd
  · rw [show partB false = pbS from funext fun s => by simp [partB, pbS]]; simp [rawB, tailB]
  · rw [show partB true = hdr from funext fun s => by simp [partB]]; simp [rawB, tailB]
structure ByX where
  i : Nat
  h : V
  d : V
def ByX.fr (v : V) (rnd : Bool) (l : List Sg) (x : ByX) : Fr := ⟨[(0, v), (1, .bool rnd), (5, .int .i64 (pgs (l.take x.i) : Nat)), (6, x.h), (7, x.d), (8, .int .i64 (x.i : Nat))], []⟩
set_option maxHeartbeats 2000000 in
theorem by_loop (hr : HasRf16 P) (hrb : HasRefBits P) {v : V} {l : List SgO} {rnd : Bool} (hR : ∀ H', Hs H' R → FlR H' v l) (hl : l.length ≤ 100000) (hs : Hs H R) {Qp : Post} {s' t'}
    (h1 : (∀ s ∈ ss l, May s) → ∀ hv dv H' ex, Hs H' (Lst hv 1 ((ss l).flatMap (partB rnd)).length (u8s ((ss l).flatMap (partB rnd))) :: Lst dv 1 ((ss l).flatMap Sg.data).length (u8s ((ss l).flatMap Sg.data)) :: R) → Qp (.exit 0) ⟨(0, v) :: (1, .bool rnd) :: (5, .int .i64 (pgs (ss l) : Nat)) :: (6, hv) :: (7, dv) :: ex, []⟩ H')
    (h2 : (¬ ∀ s ∈ ss l, May s) → ∀ H' ex, Hs H' R → Qp .ret ⟨(4, .sl none 0 0 0) :: ex, []⟩ H') :
    loopL (Call P) [0, 1, 5, 6, 7, 8] burinlaw17_bytes_l0 Qp s' t' (ByX.fr v rnd (ss l) ⟨0, .sl none 0 0 0, .sl none 0 0 0⟩) H := by
  refine loop_dec (σ := ByX) (fun x => l.length - x.i) (ByX.fr v rnd (ss l)) (fun x H => x.i ≤ l.length ∧ (∀ s ∈ (ss l).take x.i, May s) ∧ Hs H (Lst x.h 1 (((ss l).take x.i).flatMap (partB rnd)).length (u8s (((ss l).take x.i).flatMap (partB rnd))) :: Lst x.d 1 (((ss l).take x.i).flatMap Sg.data).length (u8s (((ss l).take x.i).flatMap Sg.data)) :: R))
    (fun x H K ok hn hx hy => ?_) ⟨0, .sl none 0 0 0, .sl none 0 0 0⟩ H ⟨Nat.zero_le _, by simp, ?_⟩
  rotate_left
  · exact (hs.lst (v := .sl none 0 0 0) (e := 1) (n := 0) (L := []) (Same.refl _ _) (Or.inl ⟨rfl, rfl, rfl⟩) fun b h => h.elim).lst (v := .sl none 0 0 0) (e := 1) (n := 0) (L := []) (Same.refl _ _) (Or.inl ⟨rfl, rfl, rfl⟩) fun b h => h.elim
  obtain ⟨i, fv, dv⟩ := x
  obtain ⟨hi, hM, hS⟩ := ok
  dsimp only at hi hM hS hn
  unfold ByX.fr at hn ⊢
  by_cases hlt : i < l.length
  rotate_left
  · have : i = l.length := by omega
    subst this
    rw [List.take_of_length_le (by simp)] at hS hM
    rw [List.take_of_length_le (by simp)]
    obtain ⟨a, c, e, rfl⟩ := (hR H hS.tail.tail).arr.shape
    simp -implicitDefEqProofs -dsimp (disch := omega) only [go_sem, dec_t, dec_f, burinlaw17_bytes_l0]
    rw [hx]
    exact h1 hM fv dv H _ hS
  obtain ⟨vb, vo, vc, rfl, r7, rk, sok⟩ := (hR H hS.tail.tail).at hlt
  have sokR : ∀ H', Hs H' R → SgOk H' l[i] := fun H' h => (hR H' h).ok _ (List.getElem_mem hlt)
  have rkR : ∀ H', Hs H' R → ∀ k, k < 7 → rd H' none vb (vo + i * 7 + k) = l[i].cs[k]? := fun H' h => by
    obtain ⟨b', o', c', e, _, r, _⟩ := (hR H' h).at hlt
    cases e
    exact r
  have hlt' : i < (ss l).length := by simpa using hlt
  have f1 := flat_snoc (partB rnd) (ss l) hlt'
  have f2 := flat_snoc Sg.data (ss l) hlt'
  have f3 := pgs_snoc (ss l) hlt'
  have f4 : (ss l).take (i + 1) = (ss l).take i ++ [(ss l)[i]] := List.take_succ_eq_append_getElem hlt'
  have hmem : l[i].s ∈ ss l := List.mem_map.2 ⟨l[i], List.getElem_mem hlt, rfl⟩
  have pl := part_len rnd hM
  have pd := part_len true hM
  have ple := pgs_le ((ss l).take i)
  rw [List.length_take, List.length_map, Nat.min_eq_left hi] at pl pd ple
  simp only [tailB, if_true] at pd
  rw [List.getElem_map] at f1 f2 f3 f4
  have hn := fun a b => hn ⟨i + 1, a, b⟩
  dsimp only at hn
  rw [f1, f2, f3, f4] at hn
  generalize l[i] = q at *
  obtain ⟨s, v1, v2, v3⟩ := q
  unfold SgO.cs at r7 rkR
  unfold SgOk at sok sokR
  dsimp only at r7 sok sokR hn rkR hmem
  generalize ((ss l).take i).flatMap (partB rnd) = Fi at *
  generalize hDi : ((ss l).take i).flatMap Sg.data = Di at *
  generalize pgs ((ss l).take i) = k at *
  simp -implicitDefEqProofs -dsimp (disch := omega) only [go_sem, dec_t, dec_f, burinlaw17_bytes_l0, Int.toNat_natCast, r7]
  refine encR_ct hr hrb (fun H' h => sokR H' h.tail.tail) hS (fun hms hv H2 g2 => ?_) (fun hms H2 g2 => ?_)
  rotate_left
  · simp -implicitDefEqProofs -dsimp (disch := omega) only [go_sem, dec_t, dec_f, ]
    rw [hy]
    exact h2 (fun k => hms (k s hmem)) _ _ g2.tail.tail
  have hh := hdr_len hms
  have hdl := hms.most
  obtain ⟨f5, H3, k3, g3⟩ := app_on (Hs.p1 g2) g2.own.arr (by omega)
  have g4 := g3.tail2
  have r6 := rkR H3 g4.tail.tail 6 (by omega)
  rw [show (s.cells v1 v2 v3)[6]? = some v3 from rfl] at r6
  obtain ⟨d5, H4, k4, g5⟩ := app_on (Hs.p1 g4) (sokR H3 g4.tail.tail).data (by omega)
  have g6 := Hs.p1 g5
  have r1 := rkR H4 g6.tail.tail 1 (by omega)
  rw [show (s.cells v1 v2 v3)[1]? = some (.int .i64 s.kind) from rfl] at r1
  have r6b := rkR H4 g6.tail.tail 6 (by omega)
  rw [show (s.cells v1 v2 v3)[6]? = some v3 from rfl] at r6b
  have ek : (k : Int) + 1 = ((k + 1 : Nat) : Int) := by omega
  have hM2 : ∀ t ∈ (ss l).take i ++ [s], May t := fun t ht => by
    rcases List.mem_append.1 ht with h | h
    · exact hM t h
    · rw [List.mem_singleton.1 h]; exact hms
  cases rnd with
  | true =>
    have hn := hn f5 d5 H4 (by omega) ⟨by omega, hM2, by simpa [partB] using g6⟩
    by_cases k1 : s.kind = 1
    · rw [if_pos k1] at hn
      simp -implicitDefEqProofs -dsimp (disch := omega) only [go_sem, dec_t, dec_f, k3, Int.toNat_natCast, r6, k4, r1, w64, ek, cadd1]
      exact hn
    · rw [if_neg k1] at hn
      simp -implicitDefEqProofs -dsimp (disch := omega) only [go_sem, dec_t, dec_f, k3, Int.toNat_natCast, r6, k4, r1, w64, cadd1]
      exact hn
  | false =>
    obtain ⟨f7, H6, k6, g7⟩ := app_on g6 (sokR H4 g6.tail.tail).data (by simp only [List.length_append]; omega)
    have r1 := rkR H6 g7.tail.tail 1 (by omega)
    rw [show (s.cells v1 v2 v3)[1]? = some (.int .i64 s.kind) from rfl] at r1
    have hn := hn f7 d5 H6 (by omega) ⟨by omega, hM2, by simpa [partB, List.append_assoc] using g7⟩
    by_cases k1 : s.kind = 1
    · rw [if_pos k1] at hn
      simp -implicitDefEqProofs -dsimp (disch := omega) only [go_sem, dec_t, dec_f, k3, Int.toNat_natCast, r6, k4, r6b, k6, r1, w64, ek, cadd1]
      exact hn
    · rw [if_neg k1] at hn
      simp -implicitDefEqProofs -dsimp (disch := omega) only [go_sem, dec_t, dec_f, k3, Int.toNat_natCast, r6, k4, r6b, k6, r1, w64, cadd1]
      exact hn
set_option maxHeartbeats 1000000 in
theorem bytes_ct (hp : HasL17Faults P) (hr : HasRf16 P) (hrb : HasRefBits P) {v : V} {l : List SgO} {rnd : Bool} (hR : ∀ H', Hs H' R → FlR H' v l) (hl : l.length ≤ 100000) (hpg : pgs (ss l) ≤ 64) (hs : Hs H R)
    (h1 : (∀ s ∈ ss l, May s) → ∀ v' H', Hs H' (Lst v' 1 ([66, 85, 82, 1, if rnd then 1 else 0, pgs (ss l)] ++ rawB rnd (ss l)).length (u8s ([66, 85, 82, 1, if rnd then 1 else 0, pgs (ss l)] ++ rawB rnd (ss l))) :: R) → Q (.ret v') H')
    (h2 : (¬ ∀ s ∈ ss l, May s) → ∀ H', Hs H' R → Q (.ret (.sl none 0 0 0)) H') : Call P 238 [v, .bool rnd] H Q := by
  refine call_of hp.h_burinlaw17_bytes rfl ?_
  simp -implicitDefEqProofs -dsimp (disch := omega) only [go_sem, dec_t, dec_f, ]
  refine by_loop hr hrb hR hl hs (fun hM hv dv H2 ex g2 => ?_) (fun hM H2 ex g2 => ?_)
  rotate_left
  · simp -implicitDefEqProofs -dsimp (disch := omega) only [go_sem, dec_t, dec_f, ]
    exact h2 hM _ g2
  have h1 := h1 hM
  have pl := part_len rnd hM
  have pd := part_len true hM
  rw [List.length_map] at pl pd
  simp only [tailB, if_true] at pd
  rw [rawB_eq] at h1
  obtain ⟨k, hk⟩ : ∃ k, k = pgs (ss l) := ⟨_, rfl⟩
  rw [← hk] at hpg h1 ⊢
  have eu : u8s [66, 85, 82, 1, 0, k] = [.int .u8 66, .int .u8 85, .int .u8 82, .int .u8 1, .int .u8 0, .int .u8 (k : Nat)] := rfl
  have ga := g2.alloc (l := [.int .u8 66, .int .u8 85, .int .u8 82, .int .u8 1, .int .u8 0, .int .u8 (k : Nat)])
  cases rnd with
  | false =>
    rw [← eu] at ga
    have g3 : Hs _ (Lst (.sl (some (H2.next, 0)) 6 6 1) 1 ([66, 85, 82, 1, 0, k] : List Nat).length (u8s [66, 85, 82, 1, 0, k]) :: _) := ga.toLst (n := 6) (e := 1) rfl
    obtain ⟨f4, H4, k4, g4⟩ := app_on g3 (Hs.p1 g3).own.arr (by simp only [List.length_append, List.length_cons, List.length_nil]; omega)
    rw [eu] at k4
    have e : ∀ m, tailB false m = [] := fun _ => rfl
    rw [e, List.append_nil] at h1
    simp -implicitDefEqProofs -dsimp (disch := omega) only [go_sem, dec_t, dec_f, wu8, k4]
    exact h1 f4 H4 g4.tail2.tail2
  | true =>
    have w4 := wr_s ga.cel 4
    have gb := ga.put (l' := u8s [66, 85, 82, 1, 1, k])
    have eu2 : u8s [66, 85, 82, 1, 1, k] = [.int .u8 66, .int .u8 85, .int .u8 82, .int .u8 1, .int .u8 1, .int .u8 (k : Nat)] := rfl
    have g3 : Hs _ (Lst (.sl (some (H2.next, 0)) 6 6 1) 1 ([66, 85, 82, 1, 1, k] : List Nat).length (u8s [66, 85, 82, 1, 1, k]) :: _) := gb.toLst (n := 6) (e := 1) rfl
    obtain ⟨f4, H4, k4, g4⟩ := app_on g3 (Hs.p1 g3).own.arr (by simp only [List.length_append, List.length_cons, List.length_nil]; omega)
    rw [eu2] at k4
    obtain ⟨f5, H5, k5, g5⟩ := app_on g4 (Hs.p2 g4).own.arr (by simp only [List.length_append, List.length_cons, List.length_nil]; omega)
    rw [show tailB true (ss l) = (ss l).flatMap Sg.data from rfl, ← List.append_assoc] at h1
    simp -implicitDefEqProofs -dsimp (disch := omega) only [go_sem, dec_t, dec_f, wu8, w4, k4, k5]
    exact h1 f5 H5 g5.tail2.tail2
end
end Go.Ab
namespace Go.Ab
theorem firstE_set {m : Nat} {e : Int} (I : OSt → Prop) (hI : ∀ o s, May s → comeE m o s = 0 → I o → I (comeO o s)) : ∀ (l : List Sg) (o : OSt) (k : Nat) (s' : Sg), fileRun m o l → o.Ok m → I o → (h : k < l.length) →
    (∀ oa, oa.Ok m → I oa → oa.next = o.next + k → comeE m oa l[k] = 0 → May l[k] → comeE m oa s' = e) → e ≠ 0 → firstE m o (l.set k s') = some e
  | s :: l, o, 0, s', hr, ok, hi, h, hw, he => by
    have := hw o ok hi rfl hr.2.2.1 hr.1
    simp only [List.set_cons_zero, firstE]
    rw [this, if_pos he]
  | s :: l, o, k + 1, s', hr, ok, hi, h, hw, he => by
    obtain ⟨h1, h2, h3, h4⟩ := hr
    have hl : k < l.length := by simpa using h
    have ih := firstE_set I hI l (comeO o s) k s' h4 (ok.come h3) (hI o s h1 h3 hi) hl (fun oa a b c d f => hw oa a b (by rw [c, come_next]; omega) d f) he
    have h7 : ¬ s.kind = 7 := fun q => by have := h2.1 q; subst this; simp at hl
    simp only [List.set_cons_succ, firstE]
    rw [h3, if_neg (by simp), if_neg h7]
    exact ih
theorem pgs_set : ∀ {l : List Sg} {k : Nat} {s' : Sg} (h : k < l.length), s'.kind = l[k].kind → pgs (l.set k s') = pgs l
  | s :: l, 0, s', _, hk => by simp only [List.getElem_cons_zero] at hk; simp [pgs, hk]
  | s :: l, k + 1, s', h, hk => by
    have := pgs_set (l := l) (k := k) (s' := s') (by simpa using h) (by simpa using hk)
    simp [pgs, this]
def num1 (s : Sg) : Sg := { s with num := s.num + 1 }
def pag1 (s : Sg) : Sg := { s with page := s.page.tmod 64 + 1 }
def ref1 (s : Sg) : Sg := { s with refs := 0 :: s.refs, keep := true :: s.keep }
theorem fault0 {m : Nat} {o : OSt} {s : Sg} (h : comeE m o s = 0) : comeE m o (num1 s) = 161 := by
  have := (comeE_num h).1
  unfold comeE num1
  rw [if_pos (by dsimp only; omega)]
theorem fault1 {m : Nat} {o : OSt} {s : Sg} (h : comeE m o s = 0) (hm : May s) (k7 : s.kind ≠ 7) (k2 : s.kind ≠ 2) : comeE m o (pag1 s) = 151 := by
  obtain ⟨h1, h2, h3⟩ := comeE_num h
  have hp : 1 ≤ s.page ∧ s.page ≤ 64 := by
    have := hm.page
    unfold pagedP pageK at this
    rw [if_neg k7, if_neg k2] at this
    omega
  have hne : (pag1 s).page ≠ s.page := by
    unfold pag1
    dsimp only
    rw [Int.tmod_eq_emod_of_nonneg (by omega)]
    omega
  have hf : mayS m o (pag1 s) = false := by
    unfold mayS at h2 ⊢
    have e1 : (pag1 s).kind = s.kind := rfl
    rw [e1]
    by_cases k1 : s.kind = 1
    · rw [if_pos k1] at h2 ⊢
      simp only [Bool.and_eq_true, decide_eq_true_eq] at h2
      rw [decide_eq_false (show ¬ (pag1 s).page = (o.pages : Int) + 1 by rw [← h2.2.1]; exact hne)]
      simp
    · rw [if_neg k1, if_neg k2, if_neg k7] at h2 ⊢
      simp only [Bool.and_eq_true, decide_eq_true_eq] at h2
      rw [decide_eq_false (show ¬ (pag1 s).page = (o.pages : Int) by rw [← h2.2]; exact hne)]
      simp
  unfold comeE
  rw [if_neg (by have : (pag1 s).num = s.num := rfl; rw [this]; simpa using h1), if_pos hf]
theorem fault2 {m : Nat} {o : OSt} {s : Sg} (h : comeE m o s = 0) (h0 : (0 : Int) ∉ o.held) : comeE m o (ref1 s) = 162 := by
  obtain ⟨h1, h2, h3⟩ := comeE_num h
  have h2' : mayS m o (ref1 s) = true := h2
  unfold comeE
  rw [if_neg (by have : (ref1 s).num = s.num := rfl; rw [this]; simpa using h1), if_neg (by rw [h2']; decide), if_pos ⟨0, by simp [ref1], h0⟩]
theorem wrong0 {l : List Sg} (hf : fileOk l) {k : Nat} (hk : k < l.length) : firstE (pgs (l.set k (num1 l[k]))) ⟨0, 0, false, []⟩ (l.set k (num1 l[k])) = some 161 := by
  rw [pgs_set (s' := num1 l[k]) hk rfl]
  exact firstE_set (fun _ => True) (fun _ _ _ _ _ => trivial) l _ k _ hf.2.2 (OSt.ok0 _) trivial hk (fun oa _ _ _ h _ => fault0 h) (by decide)
theorem wrong1 {l : List Sg} (hf : fileOk l) {k : Nat} (hk : k < l.length) (k7 : l[k].kind ≠ 7) (k2 : l[k].kind ≠ 2) : firstE (pgs (l.set k (pag1 l[k]))) ⟨0, 0, false, []⟩ (l.set k (pag1 l[k])) = some 151 := by
  rw [pgs_set (s' := pag1 l[k]) hk rfl]
  exact firstE_set (fun _ => True) (fun _ _ _ _ _ => trivial) l _ k _ hf.2.2 (OSt.ok0 _) trivial hk (fun oa _ _ _ h hm => fault1 h hm k7 k2) (by decide)
theorem wrong2 {l : List Sg} (hf : fileOk l) {k : Nat} (hk : k < l.length) (h0 : k ≠ 0) (kd : ∀ s ∈ l.head?, s.kind ≠ 2) : firstE (pgs (l.set k (ref1 l[k]))) ⟨0, 0, false, []⟩ (l.set k (ref1 l[k])) = some 162 := by
  rw [pgs_set (s' := ref1 l[k]) hk rfl]
  obtain ⟨_, _, hr⟩ := hf
  generalize pgs l = m at *
  cases l with
  | nil => simp at hk
  | cons s l =>
    obtain ⟨i, rfl⟩ : ∃ i, k = i + 1 := ⟨k - 1, by omega⟩
    obtain ⟨h1, h2, h3, h4⟩ := hr
    have hl : i < l.length := by simpa using hk
    have hs : s.stay = false := by
      have := kd s rfl
      cases hq : s.stay with
      | false => rfl
      | true => exact absurd (h1.stay hq) this
    have h7 : ¬ s.kind = 7 := fun q => by have := h2.1 q; subst this; simp at hl
    have ok1 := (OSt.ok0 m).come h3
    have hh : (comeO ⟨0, 0, false, []⟩ s).held = [] := by simp [comeO, keepS, hs]
    have key := firstE_set (m := m) (e := 162) (fun o => (0 : Int) ∉ o.held ∧ 1 ≤ o.next) (fun o t hm he ⟨a, b⟩ => by
      obtain ⟨q1, _, _⟩ := comeE_num he
      refine ⟨fun hz => ?_, by rw [come_next]; omega⟩
      simp only [comeO] at hz
      rcases List.mem_append.1 hz with hz | hz
      · exact a (List.mem_filter.1 hz).1
      · split at hz
        · simp at hz; omega
        · cases hz) l (comeO ⟨0, 0, false, []⟩ s) i (ref1 l[i]) h4 ok1 ⟨by rw [hh]; simp, by rw [come_next]; omega⟩ hl (fun oa _ hI _ h _ => fault2 h hI.1) (by decide)
    simp only [List.set_cons_succ, List.getElem_cons_succ, firstE]
    rw [h3, if_neg (by simp), if_neg h7]
    exact key
end Go.Ab
namespace Go.Ab
section
variable {P : Prog} {H : Heap} {R : List As} {Q : Out → Heap → Prop}
theorem wk_ct (hwk : P 201 = some cdTrue) (hQ : Q (.ret (.bool true)) H) : Call P 201 [] H Q := by
  refine call_of hwk rfl ?_
  simp -implicitDefEqProofs -dsimp (disch := omega) only [go_sem, dec_t, dec_f, ]
  exact hQ
theorem raw_lt {rnd : Bool} {l : List Sg} (hM : ∀ s ∈ l, May s) (hOk : ∀ s ∈ l, s.Ok) : ∀ b ∈ rawB rnd l, b < 256 := by
  have h1 : ∀ s ∈ l, ∀ b ∈ hdr s, b < 256 := fun s hs => hdr_lt (by have := (hM s hs).kind; unfold kindOk at this; omega)
  have h2 : ∀ s ∈ l, ∀ b ∈ s.data, b < 256 := fun s hs => (hOk s hs).data
  intro b hb
  unfold rawB at hb
  split at hb
  · rcases List.mem_append.1 hb with hb | hb
    · obtain ⟨s, hs, hb⟩ := List.mem_flatMap.1 hb; exact h1 s hs b hb
    · obtain ⟨s, hs, hb⟩ := List.mem_flatMap.1 hb; exact h2 s hs b hb
  · obtain ⟨s, hs, hb⟩ := List.mem_flatMap.1 hb
    rcases List.mem_append.1 hb with hb | hb
    · exact h1 s hs b hb
    · exact h2 s hs b hb
def fftF (w : V) (e : Int) (k : Nat) : Fr := ⟨[(3, w), (5, .int .i64 e), (6, .int .i64 (k : Nat))], []⟩
set_option maxHeartbeats 1000000 in
theorem ff_tail (hwk : P 201 = some cdTrue) (hp : HasFw P) (hfs : HasFs P) (hg : HasSeg P) (hb : HasBits P) (hr : HasRf16 P) (hrb : HasRefBits P) (hl : HasL17Faults P) {w : V} {l : List SgO} {e : Int} (hR : ∀ H', Hs H' R → FlR H' w l) (hn : l.length ≤ 20000) (hpg : pgs (ss l) ≤ 64) (hOk : ∀ s ∈ ss l, s.Ok) (he : e ≠ 0)
    (hE : firstE (pgs (ss l)) ⟨0, 0, false, []⟩ (ss l) = some e) (hs : Hs H R) {Qp : Post} {s' t'} (h1 : ∀ H' ex, Qp (.exit 1) ⟨(3, w) :: ex, []⟩ H') (h2 : ∀ H' ex, Qp .ret ⟨(2, .bool true) :: ex, []⟩ H') :
    loopL (Call P) [3, 5, 6] burinlaw17_FileFaults_l0 Qp s' t' (fftF w e 0) H := by
  refine loop_cnt 2 (fftF w e) (fun _ H => Hs H R) (fun k H K hk hS hn' hx hy => ?_) 0 H (Nat.zero_le _) hs
  unfold fftF at hn' ⊢
  by_cases hlt : k < 2
  rotate_left
  · have : k = 2 := by omega
    subst this
    simp -implicitDefEqProofs -dsimp (disch := omega) only [go_sem, dec_t, dec_f, burinlaw17_FileFaults_l0]
    rw [hx]
    exact h1 H _
  have hn' := hn' hlt
  obtain ⟨rnd, hrnd⟩ : ∃ rnd, rnd = decide (k = 1) := ⟨_, rfl⟩
  have k1 : (decide ((k : Int) = 1)) = rnd := by rw [hrnd]; by_cases h : k = 1 <;> simp [h] <;> omega
  clear hrnd
  simp -implicitDefEqProofs -dsimp (disch := omega) only [go_sem, dec_t, dec_f, burinlaw17_FileFaults_l0, k1]
  refine bytes_ct hl hr hrb hR (by omega) hpg hS (fun hM fv H2 g2 => ?_) (fun _ H2 g2 => ?_)
  rotate_left
  · simp -implicitDefEqProofs -dsimp (disch := omega) only [go_sem, dec_t, dec_f, ]
    refine wk_ct hwk ?_
    simp -implicitDefEqProofs -dsimp (disch := omega) only [go_sem, dec_t, dec_f, ]
    rw [hy]
    exact h2 _ _
  obtain ⟨f, hf⟩ : ∃ f, f = [66, 85, 82, 1, if rnd then 1 else 0, pgs (ss l)] ++ rawB rnd (ss l) := ⟨_, rfl⟩
  rw [← hf] at g2
  have hfl : 0 < f.length := by rw [hf]; simp
  have hlen : f.length ≤ 100000000000000 := by
    have pl := part_len rnd hM
    rw [hf, rawB_eq]
    simp only [List.length_append, List.length_cons, List.length_nil, List.length_map] at pl ⊢
    omega
  have h256 : ∀ b ∈ f, b < 256 := fun b hb => by
    rw [hf] at hb
    rcases List.mem_append.1 hb with h | h
    · simp only [List.mem_cons, List.not_mem_nil, or_false] at h
      rcases h with rfl | rfl | rfl | rfl | rfl | rfl <;> first | omega | (cases rnd <;> decide)
    · exact raw_lt hM hOk b h
  obtain ⟨b, o, c, rfl⟩ := g2.own.arr.at0 hfl
  simp -implicitDefEqProofs -dsimp (disch := omega) only [go_sem, dec_t, dec_f, ]
  refine segments_ct hp hfs hg hb hM hOk hf hpg hlen (by simp; omega) hE he (fun H' h => h.own.arr) h256 g2 fun H3 g3 => ?_
  simp -implicitDefEqProofs -dsimp (disch := omega) only [go_sem, dec_t, dec_f, dec_f (show ¬ (e ≠ e) from fun h => h rfl), w64, cadd1]
  exact hn' H3 g3.tail
theorem over_set {L : List V} {p : Nat} {x : V} (hp : p < L.length) : over L p [x] = L.set p x := by
  unfold over
  refine List.ext_getElem? fun j => ?_
  rw [List.getElem?_set]
  by_cases h1 : j < p
  · rw [if_neg (by omega), List.append_assoc, List.getElem?_append_left (by simp; omega), List.getElem?_take, if_pos h1]
  · rw [List.append_assoc, List.getElem?_append_right (by simp; omega), List.length_take, Nat.min_eq_left (by omega)]
    by_cases h2 : p = j
    · subst h2; simp [hp]
    · rw [if_neg h2, List.getElem?_append_right (by simp; omega), List.getElem?_drop]
      simp only [List.length_cons, List.length_nil]
      congr 1; omega
theorem sgCells_set : ∀ {l : List SgO} {i k : Nat} {x : V} {q' : SgO} (hi : i < l.length), k < 7 → q'.cs = l[i].cs.set k x → (sgCells l).set (i * 7 + k) x = sgCells (l.set i q')
  | q :: l, 0, k, x, q', _, hk, hq => by
    have h7 : q.cs.length = 7 := rfl
    simp only [List.getElem_cons_zero] at hq
    simp only [sgCells, List.flatMap_cons, List.set_cons_zero, Nat.zero_mul, Nat.zero_add]
    rw [List.set_append_left _ _ (by omega), hq]
  | q :: l, i + 1, k, x, q', hi, hk, hq => by
    have h7 : q.cs.length = 7 := rfl
    have ih := sgCells_set (l := l) (i := i) (k := k) (x := x) (q' := q') (by simpa using hi) hk (by simpa using hq)
    simp only [sgCells, List.flatMap_cons, List.set_cons_succ] at ih ⊢
    rw [List.set_append_right _ _ (by omega), h7, show (i + 1) * 7 + k - 7 = i * 7 + k by omega, ih]
theorem sg_sto {w : V} {l : List SgO} {i k : Nat} {x : V} {q' : SgO} (h : Hs H (Lst w 7 l.length (sgCells l) :: R)) (hi : i < l.length) (hk : k < 7) (hx : one x = true) (hq : q'.cs = l[i].cs.set k x) :
    ∃ b H', w = .sl (some (b, 0)) l.length l.length 7 ∧ wr H b (i * 7 + k) [x] = some H' ∧ Hs H' (Lst w 7 (l.set i q').length (sgCells (l.set i q')) :: R) := by
  obtain ⟨b, hw, hb, k1, k2, k3⟩ := wr_own h.own hi (k := k) (vs := [x]) (by simp; omega) (by simp [hx])
  have hlen : (sgCells l).length = l.length * 7 := by
    rcases h.own with ⟨_, h1, h2⟩ | ⟨_, _, _, h1, _⟩
    · omega
    · exact h1
  have g := h.lst' k3 k2 fun b h => Or.inl h
  have e1 : over (sgCells l) (i * 7 + k) [x] = sgCells (l.set i q') := by rw [over_set (by rw [hlen]; omega), sgCells_set hi hk hq]
  rw [e1] at k1 g
  exact ⟨b, _, hw, k1, by rw [List.length_set]; exact g⟩
theorem flR_set {w : V} {l : List SgO} {i : Nat} {q' : SgO} {L : List As} {H' : Heap} (h : Hs H' L) (hw : Lst w 7 (l.set i q').length (sgCells (l.set i q')) ∈ L) (hl : ∀ o ∈ l, ∀ A ∈ prt o, A ∈ L) (hq : ∀ A ∈ prt q', A ∈ L) (hk : ∀ o ∈ l, o.s.Ok) (hk' : q'.s.Ok) : FlR H' w (l.set i q') :=
  ⟨(h.ownm hw).arr, fun o ho => by
    have key : (∀ A ∈ prt o, A ∈ L) ∧ o.s.Ok := by
      rcases List.mem_or_eq_of_mem_set ho with h | h
      · exact ⟨hl o h, hk o h⟩
      · subst h; exact ⟨hq, hk'⟩
    exact ⟨(h.ownm (key.1 _ (by simp [prt]))).arr, (h.ownm (key.1 _ (by simp [prt]))).arr, (h.ownm (key.1 _ (by simp [prt]))).arr, key.2⟩⟩
theorem sg_rd1 {w : V} {wb : Nat} {l : List SgO} {i j : Nat} (h : Hs H (Lst w 7 l.length (sgCells l) :: R)) (hw : w = .sl (some (wb, 0)) l.length l.length 7) (hi : i < l.length) (hj : j < 7) : rd H none wb (i * 7 + j) = l[i].cs[j]? := by
  have ha := h.own.arr
  rw [hw] at ha
  have := ha.rdm hi hj
  rw [Nat.zero_add] at this
  rw [this, ← sgCells_at hi, List.getElem?_take, if_pos hj, List.getElem?_drop]
theorem rd_apart {x : Obj} {b p : Nat} {n : Option Nat} (h : b < H.next) : rd (H.new x) n b p = rd H n b p := by
  simp only [rd, get_new]
  rw [if_neg (by omega)]
theorem ss_set (l : List SgO) (i : Nat) (q' : SgO) : ss (l.set i q') = (ss l).set i q'.s := by simp [ss, List.map_set]
end
abbrev wrongTD : TD := .agg [.sl 104 segTD, .int .i64, .int .i64]
theorem is_wrong {H : Heap} {cs : List V} {x : TD.Ty wrongTD} (h : Is H wrongTD cs x) : ∃ (v : V) (l : List SgO) (a b : Int), cs = [v, .int .i64 a, .int .i64 b] ∧ FlR H v l ∧ l.length ≤ 140737488351232 ∧ r64 a ∧ r64 b := by
  obtain ⟨a, r, e, h1, a2, r2, e2, ⟨h2, h2'⟩, a3, r3, e3, ⟨h3, h3'⟩, h4⟩ := h
  obtain ⟨v, l, k1, k2, k3, k4⟩ := is_segs h1
  exact ⟨v, l, x.2.1, x.2.2.1, by rw [e, e2, e3, k1, h2, h3, show r3 = [] from h4]; rfl, ⟨k2, k3⟩, by omega, k64 h2', k64 h3'⟩
theorem fileOk_may {l : List Sg} (h : fileOk l) : ∀ s ∈ l, May s := by
  have key : ∀ (m : Nat) (l : List Sg) (o : OSt), fileRun m o l → ∀ s ∈ l, May s := by
    intro m l
    induction l with
    | nil => exact fun _ _ s h => nomatch h
    | cons t l ih =>
      intro o h s hs
      rcases List.mem_cons.1 hs with rfl | hs
      · exact h.1
      · exact ih _ h.2.2.2 s hs
  exact key _ _ _ h.2.2
open Classical in
set_option maxHeartbeats 4000000 in
theorem ff_main {P : Prog} (hwk : P 201 = some cdTrue) (hp : HasFw P) (hfs : HasFs P) (hg : HasSeg P) (hb : HasBits P) (hr7 : HasRf17 P) (hr : HasRf16 P) (hrb : HasRefBits P) (hc : P 27 = some burinref0_Copy) (hw : P 29 = some burinkit_Within) (hli : P 233 = some burinlaw17_light) (hl : HasL17Faults P)
    {H0 : Heap} {v : V} {l : List SgO} {a c : Int} (hv : FlR H0 v l) (hlen : l.length ≤ 140737488351232) (ha : r64 a) (hcc : r64 c) : Call P 240 [.agg [v, .int .i64 a, .int .i64 c]] H0 fun o _ => o = .ret (.bool true) := by
  refine call_of hl.h_burinlaw17_FileFaults rfl ?_
  obtain ⟨va, vc, ve, hvs⟩ := hv.arr.shape
  have g0 := (Hs.start H0).alloc (l := [v, .int .i64 a, .int .i64 c])
  have r0 := rd_s g0.cel
  rw [hvs] at r0 g0
  rw [hvs]
  simp -implicitDefEqProofs -dsimp (disch := omega) only [go_sem, dec_t, dec_f, r0]
  generalize H0.new _ = H1 at *
  generalize H0.next = b0 at *
  rw [← hvs] at g0 ⊢
  refine light_ct hli (hv.same (Hs.p1 g0).base) (by omega) fun lt hlt => ?_
  cases lt with
  | false =>
    simp -implicitDefEqProofs -dsimp (disch := omega) only [go_sem, dec_t, dec_f, ]
    refine wk_ct hwk ?_
    simp -implicitDefEqProofs -dsimp (disch := omega) only [go_sem, dec_t, dec_f, ]
  | true =>
  have lg := hlt rfl
  have lgl := lg.len
  by_cases hz : l.length = 0
  · simp -implicitDefEqProofs -dsimp (disch := omega) only [go_sem, dec_t, dec_f, r0]
    refine wk_ct hwk ?_
    simp -implicitDefEqProofs -dsimp (disch := omega) only [go_sem, dec_t, dec_f, ]
  simp -implicitDefEqProofs -dsimp (disch := omega) only [go_sem, dec_t, dec_f, r0]
  rw [← hvs]
  refine ordered_ct hr7 hr (fun H' h => hv.same (Hs.p1 h).base) (by omega) g0 fun H2 g2 => ?_
  by_cases hok : fileOk (ss l)
  rotate_left
  · rw [decide_eq_false hok]
    simp -implicitDefEqProofs -dsimp (disch := omega) only [go_sem, dec_t, dec_f, ]
    refine wk_ct hwk ?_
    simp -implicitDefEqProofs -dsimp (disch := omega) only [go_sem, dec_t, dec_f, ]
  rw [decide_eq_true hok]
  have r2 := rd_s g2.cel
  rw [hvs] at r2
  simp -implicitDefEqProofs -dsimp (disch := omega) only [go_sem, dec_t, dec_f, r2]
  rw [← hvs]
  refine copySegs_ct hr hc lg (fun H' h => hv.same (Hs.p1 h).base) g2 fun w l' H3 hss hll hsok g3 => ?_
  have hrR : ∀ H', Hs H' (Lst w 7 l'.length (sgCells l') :: (l'.flatMap prt ++ [Cel b0 [v, .int .i64 a, .int .i64 c], Bas H0])) → H'.get b0 = .cells [v, .int .i64 a, .int .i64 c] true := fun H' h => h.celm (by simp)
  have r3 := rd_s (hrR H3 g3)
  rw [hvs] at r3
  obtain ⟨wb, hws⟩ : ∃ wb, w = .sl (some (wb, 0)) l'.length l'.length 7 := by
    rcases g3.own with ⟨_, h, _⟩ | ⟨wb, hws, _⟩
    · omega
    · exact ⟨wb, hws⟩
  rw [hws]
  simp -implicitDefEqProofs -dsimp (disch := omega) only [go_sem, dec_t, dec_f, r3]
  rw [hll]
  refine within_ct hw ha (by omega) (by omega) ?_
  have hk0 : 0 ≤ a % (l.length : Int) := Int.emod_nonneg _ (by omega)
  have hk1 : a % (l.length : Int) < (l.length : Int) := Int.emod_lt_of_pos _ (by omega)
  obtain ⟨k, hk⟩ : ∃ k, k = (a % (l.length : Int)).toNat := ⟨_, rfl⟩
  have hkl : k < l'.length := by omega
  rw [← hk]
  clear hk hk0 hk1
  simp -implicitDefEqProofs -dsimp (disch := omega) only [go_sem, dec_t, dec_f, r3]
  refine within_ct hw (n := 3) hcc (by decide) (by decide) ?_
  have hw0 : 0 ≤ c % 3 := Int.emod_nonneg _ (by decide)
  have hw1 : c % 3 < 3 := Int.emod_lt_of_pos _ (by decide)
  obtain ⟨wh, hwh⟩ : ∃ wh, wh = (c % ((3 : Nat) : Int)).toNat := ⟨_, rfl⟩
  have hwl : wh < 3 := by omega
  rw [← hwh]
  clear hwh hw0 hw1
  have hok' : fileOk (ss l') := by rw [hss]; exact hok
  have hkl' : k < (ss l').length := by simpa using hkl
  have hsk : (ss l')[k] = l'[k].s := by rw [List.getElem_map]
  have hMk : May l'[k].s := fileOk_may hok' _ (List.mem_map.2 ⟨_, List.getElem_mem hkl, rfl⟩)
  have hOk' : ∀ s ∈ ss l', s.Ok := fun s hs => by obtain ⟨o, ho, rfl⟩ := List.mem_map.1 hs; exact hsok o ho
  have hlgk := lg.ok l'[k].s (by rw [← hss]; exact List.mem_map.2 ⟨_, List.getElem_mem hkl, rfl⟩)
  obtain ⟨xb, xo, xc, hx, rk7, rk, skok⟩ := (flR_own hsok g3).at hkl
  rw [hws] at hx
  cases hx
  have hpgs := hok'.1
  -- what is behind a change
  have fin : ∀ (q' : SgO) (e : Int) (R : List As) (H4 : Heap), (ss l')[k].kind = q'.s.kind → q'.s.Ok → firstE (pgs ((ss l').set k q'.s)) ⟨0, 0, false, []⟩ ((ss l').set k q'.s) = some e → e ≠ 0 → Hs H4 R → (Lst w 7 (l'.set k q').length (sgCells (l'.set k q')) ∈ R) → (∀ o ∈ l', ∀ A ∈ prt o, A ∈ R) → (∀ A ∈ prt q', A ∈ R) →
      ∀ {Qp : Post} {s' t'}, (∀ H' ex, Qp (.exit 1) ⟨(3, w) :: ex, []⟩ H') → (∀ H' ex, Qp .ret ⟨(2, .bool true) :: ex, []⟩ H') → loopL (Call P) [3, 5, 6] burinlaw17_FileFaults_l0 Qp s' t' (fftF w e 0) H4 := fun q' e R H4 hkind hq hE he h m1 m2 m3 Qp s' t' x1 x2 => by
    refine ff_tail hwk hp hfs hg hb hr hrb hl (l := l'.set k q') (fun H' h' => flR_set h' m1 m2 m3 hsok hq) (by rw [List.length_set]; omega) (by rw [ss_set, pgs_set hkl' hkind.symm]; exact hpgs) (fun s hs => ?_) he (by rw [ss_set]; exact hE) h x1 x2
    rw [ss_set] at hs
    rcases List.mem_or_eq_of_mem_set hs with h | h
    · exact hOk' s h
    · subst h; exact hq
  have mem0 : ∀ (q' : SgO), (∀ o ∈ l', ∀ A ∈ prt o, A ∈ Lst w 7 (l'.set k q').length (sgCells (l'.set k q')) :: (l'.flatMap prt ++ [Cel b0 [v, .int .i64 a, .int .i64 c], Bas H0])) := fun q' o ho A hA =>
    List.mem_cons_of_mem _ (List.mem_append_left _ (List.mem_flatMap.2 ⟨o, ho, hA⟩))
  have mq : l'[k] ∈ l' := List.getElem_mem hkl
  rw [hsk] at fin
  have w0 := wrong0 hok' hkl'
  have w1 := wrong1 hok' hkl'
  have w2 := wrong2 hok' hkl'
  rw [hsk] at w0 w1 w2
  have sto := fun (j : Nat) (x : V) (q' : SgO) (hj : j < 7) (hx : one x = true) (hq : q'.cs = l'[k].cs.set j x) => sg_sto g3 hkl hj hx hq
  generalize hqk : l'[k] = q at *
  obtain ⟨s, v1, v2, v3⟩ := q
  unfold SgO.cs at rk sto
  dsimp only at rk sto hMk hlgk fin w0 w1 w2
  have rd0 := rk 0 (by omega)
  have rd1 := rk 1 (by omega)
  have rd2 := rk 2 (by omega)
  have rd3 := rk 3 (by omega)
  have rd4 := rk 4 (by omega)
  rw [Nat.zero_add] at rd0 rd1 rd2 rd3 rd4
  rw [Nat.add_zero] at rd0
  rw [show (s.cells v1 v2 v3)[0]? = some (.int .i64 s.num) from rfl] at rd0
  rw [show (s.cells v1 v2 v3)[1]? = some (.int .i64 s.kind) from rfl] at rd1
  rw [show (s.cells v1 v2 v3)[2]? = some (.int .i64 s.page) from rfl] at rd2
  rw [show (s.cells v1 v2 v3)[3]? = some v1 from rfl] at rd3
  rw [show (s.cells v1 v2 v3)[4]? = some v2 from rfl] at rd4
  have sOk := skok.ok
  dsimp only at sOk
  have hn0 := hMk.n0
  have hn1 := hMk.n1
  rcases (show wh = 0 ∨ wh = 1 ∨ wh = 2 by omega) with rfl | rfl | rfl
  · obtain ⟨b5, H5, hw5, k5, g5⟩ := sto 0 (.int .i64 (s.num + 1)) ⟨num1 s, v1, v2, v3⟩ (by decide) rfl rfl
    rw [hws] at hw5
    cases hw5
    rw [Nat.add_zero] at k5
    simp -implicitDefEqProofs -dsimp (disch := omega) only [go_sem, dec_t, dec_f, Int.toNat_natCast, Nat.zero_add, Nat.add_zero, rd0, w64, k5]
    rw [← hll, ← hws]
    refine fin ⟨num1 s, v1, v2, v3⟩ 161 _ H5 rfl ⟨by unfold r64 num1; dsimp only; omega, sOk.kind, sOk.page, sOk.refs, sOk.data, sOk.l1, sOk.l2, sOk.l3⟩ w0 (by decide) g5 List.mem_cons_self (mem0 _) (fun A hA => mem0 _ _ mq A hA) (fun H' ex => ?_) (fun H' ex => ?_)
    · simp -implicitDefEqProofs -dsimp (disch := omega) only [go_sem, dec_t, dec_f, ]
      refine wk_ct hwk ?_
      simp -implicitDefEqProofs -dsimp (disch := omega) only [go_sem, dec_t, dec_f, ]
    · simp -implicitDefEqProofs -dsimp (disch := omega) only [go_sem, dec_t, dec_f, ]
  · by_cases k7 : s.kind = 7
    · simp -implicitDefEqProofs -dsimp (disch := omega) only [go_sem, dec_t, dec_f, Int.toNat_natCast, Nat.zero_add, Nat.add_zero, rd1]
      refine wk_ct hwk ?_
      simp -implicitDefEqProofs -dsimp (disch := omega) only [go_sem, dec_t, dec_f, ]
    by_cases k2 : s.kind = 2
    · simp -implicitDefEqProofs -dsimp (disch := omega) only [go_sem, dec_t, dec_f, Int.toNat_natCast, Nat.zero_add, Nat.add_zero, rd1]
      refine wk_ct hwk ?_
      simp -implicitDefEqProofs -dsimp (disch := omega) only [go_sem, dec_t, dec_f, ]
    have hpr : -64 < s.page.tmod 64 ∧ s.page.tmod 64 < 64 := by
      have hp64 : 1 ≤ s.page ∧ s.page ≤ 64 := by
        have := hMk.page
        unfold pagedP pageK at this
        rw [if_neg k7, if_neg k2] at this
        omega
      rw [Int.tmod_eq_emod_of_nonneg (by omega)]
      omega
    obtain ⟨b5, H5, hw5, k5, g5⟩ := sto 2 (.int .i64 (s.page.tmod 64 + 1)) ⟨pag1 s, v1, v2, v3⟩ (by decide) rfl rfl
    rw [hws] at hw5
    cases hw5
    simp -implicitDefEqProofs -dsimp (disch := omega) only [go_sem, dec_t, dec_f, Int.toNat_natCast, Nat.zero_add, Nat.add_zero, rd1, rd2, w64, k5]
    rw [← hll, ← hws]
    refine fin ⟨pag1 s, v1, v2, v3⟩ 151 _ H5 rfl ⟨sOk.num, sOk.kind, by unfold r64 pag1; dsimp only; omega, sOk.refs, sOk.data, sOk.l1, sOk.l2, sOk.l3⟩ (w1 k7 k2) (by decide) g5 List.mem_cons_self (mem0 _) (fun A hA => mem0 _ _ mq A hA) (fun H' ex => ?_) (fun H' ex => ?_)
    · simp -implicitDefEqProofs -dsimp (disch := omega) only [go_sem, dec_t, dec_f, ]
      refine wk_ct hwk ?_
      simp -implicitDefEqProofs -dsimp (disch := omega) only [go_sem, dec_t, dec_f, ]
    · simp -implicitDefEqProofs -dsimp (disch := omega) only [go_sem, dec_t, dec_f, ]
  · by_cases k3 : s.kind = 3
    rotate_left
    · simp -implicitDefEqProofs -dsimp (disch := omega) only [go_sem, dec_t, dec_f, Int.toNat_natCast, Nat.zero_add, Nat.add_zero, rd1]
      refine wk_ct hwk ?_
      simp -implicitDefEqProofs -dsimp (disch := omega) only [go_sem, dec_t, dec_f, ]
    by_cases kz : k = 0
    · subst kz
      have rd1 : rd H3 none wb 1 = some (.int .i64 s.kind) := by simpa using rd1
      simp -implicitDefEqProofs -dsimp (disch := omega) only [go_sem, dec_t, dec_f, Int.toNat_natCast, Nat.zero_add, Nat.add_zero, rd1]
      refine wk_ct hwk ?_
      simp -implicitDefEqProofs -dsimp (disch := omega) only [go_sem, dec_t, dec_f, ]
    simp -implicitDefEqProofs -dsimp (disch := omega) only [go_sem, dec_t, dec_f, Int.toNat_natCast, Nat.zero_add, Nat.add_zero, rd1, rd3]
    refine has17_ct hl skok.refs (by dsimp only; omega) ?_
    by_cases h0 : (0 : Int) ∈ s.refs
    · rw [dec_t h0]
      simp -implicitDefEqProofs -dsimp (disch := omega) only [go_sem, dec_t, dec_f, ]
      refine wk_ct hwk ?_
      simp -implicitDefEqProofs -dsimp (disch := omega) only [go_sem, dec_t, dec_f, ]
    rw [dec_f h0]
    obtain ⟨vb, vo, vc', hvs', _, rkv, _⟩ := (hv.same (g3.bas (by simp) : Same (fun _ => False) H0 H3)).at (i := 0) (by omega)
    have rv1 := rkv 1 (by omega)
    rw [Nat.zero_mul, Nat.add_zero] at rv1
    rw [hvs] at hvs'
    cases hvs'
    have hk0 : l[0].cs[1]? = some (.int .i64 l[0].s.kind) := rfl
    rw [hk0] at rv1
    by_cases kd : l[0].s.kind = 2
    · generalize l[0] = q0 at *
      simp -implicitDefEqProofs -dsimp (disch := omega) only [go_sem, dec_t, dec_f, r3, Int.toNat_natCast, Nat.zero_add, Nat.add_zero, rv1]
      refine wk_ct hwk ?_
      simp -implicitDefEqProofs -dsimp (disch := omega) only [go_sem, dec_t, dec_f, ]
    have w2 := w2 kz (fun t ht => by
      have : (ss l').head? = some l[0].s := by
        rw [hss, List.head?_eq_getElem?, List.getElem?_map, List.getElem?_eq_getElem (by omega : 0 < l.length)]; rfl
      rw [this] at ht
      cases ht
      exact kd)
    generalize l[0] = q0 at *
    have hwb : wb < H3.next := by
      have := g3.own
      rcases this with ⟨h, _, _⟩ | ⟨z, hz, _, _, hlt⟩
      · rw [hws] at h; cases h
      · rw [hws] at hz; cases hz; exact hlt
    have ga := g3.alloc (l := [.int .i64 0])
    have sa : Same (fun _ => False) H3 (H3.new (.cells [.int .i64 0] true)) := Same.new _ _ _
    have rd3a : rd (H3.new (.cells [.int .i64 0] true)) none wb (k * 7 + 3) = some v1 := by rw [rd_apart hwb]; exact rd3
    have refsa := (skok.same sa).refs
    have keepR : ∀ H' (_ : Same (fun _ => False) H3 H'), Arr H' v2 1 s.keep.length (bools s.keep) := fun H' h => (skok.same h).keep
    obtain ⟨v1', H6, k6, o6, s6, f6⟩ := app_own (e := 1) (eb := 8) (ga.toLst (n := 1) (e := 1) rfl).own (firsts_arr refsa) (by simp [i64s]) (i64s_one _) (by decide) (by dsimp only; omega)
    have g6 := (ga.toLst (n := 1) (e := 1) rfl).lst' s6 o6 f6
    rw [show ([V.int .i64 0] ++ i64s s.refs : List V) = i64s (0 :: s.refs) from rfl, show 1 + s.refs.length = (0 :: s.refs : List Int).length by simp; omega] at g6
    obtain ⟨v1a, v1n, v1m, v1z, hv6⟩ : ∃ a n m z, v1' = .sl a n m z := by obtain ⟨a, m, z, h⟩ := g6.own.arr.shape; exact ⟨_, _, _, _, h⟩
    subst hv6
    have g6' := Hs.p1 g6
    obtain ⟨b7, H7, hw7, k7, g7⟩ := sg_sto (q' := ⟨{ s with refs := 0 :: s.refs }, (.sl v1a v1n v1m v1z), v2, v3⟩) (k := 3) (x := .sl v1a v1n v1m v1z) g6' hkl (by decide) rfl (by rw [hqk]; rfl)
    rw [hws] at hw7
    cases hw7
    have hl7 : (l'.set k ⟨{ s with refs := 0 :: s.refs }, (.sl v1a v1n v1m v1z), v2, v3⟩).length = l'.length := List.length_set
    have hws7 : w = .sl (some (wb, 0)) (l'.set k ⟨{ s with refs := 0 :: s.refs }, (.sl v1a v1n v1m v1z), v2, v3⟩).length (l'.set k ⟨{ s with refs := 0 :: s.refs }, (.sl v1a v1n v1m v1z), v2, v3⟩).length 7 := by rw [hl7]; exact hws
    have rd4a := sg_rd1 (j := 4) (i := k) g7 hws7 (by rw [hl7]; exact hkl) (by decide)
    have hwb7 : wb < H7.next := by
      rcases g7.own with ⟨h, _, _⟩ | ⟨z, hz, _, _, hlt⟩
      · rw [hws7] at h; cases h
      · rw [hws7] at hz; cases hz; exact hlt
    rw [List.getElem_set_self] at rd4a
    rw [show (SgO.cs ⟨{ s with refs := 0 :: s.refs }, (.sl v1a v1n v1m v1z), v2, v3⟩)[4]? = some v2 from rfl] at rd4a
    have gb := g7.alloc (l := [.bool true])
    have rd4b : rd (H7.new (.cells [.bool true] true)) none wb (k * 7 + 4) = some v2 := by rw [rd_apart hwb7]; exact rd4a
    have keepb : Arr (H7.new (.cells [.bool true] true)) v2 1 s.keep.length (bools s.keep) := by
      have hm : Lst v2 1 s.keep.length (bools s.keep) ∈ l'.flatMap prt := List.mem_flatMap.2 ⟨_, mq, by simp [prt]⟩
      exact (gb.ownm (List.mem_cons_of_mem _ (List.mem_cons_of_mem _ (List.mem_cons_of_mem _ (List.mem_append_left _ hm))))).arr
    have hkeep := hMk.keep
    obtain ⟨v2', H8, k8, o8, s8, f8⟩ := app_own (e := 1) (eb := 1) (gb.toLst (n := 1) (e := 1) rfl).own (firsts_arr keepb) (by simp [bools]) (by simp [bools, one]) (by decide) (by omega)
    have g8 := (gb.toLst (n := 1) (e := 1) rfl).lst' s8 o8 f8
    rw [show ([V.bool true] ++ bools s.keep : List V) = bools (true :: s.keep) from rfl, show 1 + s.keep.length = (true :: s.keep : List Bool).length by simp; omega] at g8
    obtain ⟨v2a, v2n, v2m, v2z, hv8⟩ : ∃ a n m z, v2' = .sl a n m z := by obtain ⟨a, m, z, h⟩ := g8.own.arr.shape; exact ⟨_, _, _, _, h⟩
    subst hv8
    obtain ⟨b9, H9, hw9, k9, g9⟩ := sg_sto (q' := ⟨ref1 s, (.sl v1a v1n v1m v1z), (.sl v2a v2n v2m v2z), v3⟩) (k := 4) (x := .sl v2a v2n v2m v2z) (Hs.p1 g8) (by rw [hl7]; exact hkl) (by decide) rfl (by rw [List.getElem_set_self]; rfl)
    rw [hws7] at hw9
    cases hw9
    rw [List.set_set] at g9
    simp -implicitDefEqProofs -dsimp (disch := omega) only [go_sem, dec_t, dec_f, r3, Int.toNat_natCast, Nat.zero_add, Nat.add_zero, rv1, rd3a, k6, k7, rd4b, k8, k9]
    rw [← hll, ← hws]
    refine fin ⟨ref1 s, (.sl v1a v1n v1m v1z), (.sl v2a v2n v2m v2z), v3⟩ 162 _ H9 rfl ⟨sOk.num, sOk.kind, sOk.page, fun n hn => ?_, sOk.data, by simp only [ref1, List.length_cons]; omega, by simp only [ref1, List.length_cons]; omega, sOk.l3⟩ w2 (by decide) g9 List.mem_cons_self (fun o ho A hA => ?_) (fun A hA => ?_) (fun H' ex => ?_) (fun H' ex => ?_)
    · rcases List.mem_cons.1 hn with rfl | hn
      · unfold r64; omega
      · exact sOk.refs n hn
    · exact List.mem_cons_of_mem _ (List.mem_cons_of_mem _ (List.mem_cons_of_mem _ (List.mem_append_left _ (List.mem_flatMap.2 ⟨o, ho, hA⟩))))
    · simp only [prt, List.mem_cons, List.not_mem_nil, or_false] at hA
      rcases hA with rfl | rfl | rfl
      · exact List.mem_cons_of_mem _ (List.mem_cons_of_mem _ List.mem_cons_self)
      · exact List.mem_cons_of_mem _ List.mem_cons_self
      · exact List.mem_cons_of_mem _ (List.mem_cons_of_mem _ (List.mem_cons_of_mem _ (List.mem_append_left _ (List.mem_flatMap.2 ⟨_, mq, by simp [prt, ref1]⟩))))
    · simp -implicitDefEqProofs -dsimp (disch := omega) only [go_sem, dec_t, dec_f, ]
      refine wk_ct hwk ?_
      simp -implicitDefEqProofs -dsimp (disch := omega) only [go_sem, dec_t, dec_f, ]
    · simp -implicitDefEqProofs -dsimp (disch := omega) only [go_sem, dec_t, dec_f, ]
theorem law_FileFaults {P : Prog} (hwk : P 201 = some cdTrue) (hp : HasFw P) (hfs : HasFs P) (hg : HasSeg P) (hb : HasBits P) (hr7 : HasRf17 P) (hr : HasRf16 P) (hrb : HasRefBits P) (hc : P 27 = some burinref0_Copy) (hw : P 29 = some burinkit_Within) (hli : P 233 = some burinlaw17_light) (hl : HasL17Faults P) (H : Heap) (cs : List V) (x : TD.Ty wrongTD) (h : Is H wrongTD cs x) :
    Call P 240 [argV wrongTD cs] H fun o _ => o = .ret (.bool true) := by
  obtain ⟨v, l, a, b, rfl, k1, k2, k3, k4⟩ := is_wrong h
  exact ff_main hwk hp hfs hg hb hr7 hr hrb hc hw hli hl k1 k2 k3 k4
end Go.Ab
