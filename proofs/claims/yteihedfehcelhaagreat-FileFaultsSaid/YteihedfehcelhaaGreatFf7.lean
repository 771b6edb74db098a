/- Parts of a proof over an abstract machine: At, PW17. Conditions: none. -/
import Derived.Test.YteihedfehcelhaaGreatFf1
import Derived.Test.YteihedfehcelhaaGreatFf2
import Derived.Test.YteihedfehcelhaaGreatFf3
import Derived.Test.YteihedfehcelhaaGreatFf4
import Derived.Test.YteihedfehcelhaaGreatFf5
import Derived.Test.YteihedfehcelhaaGreatFf6
set_option linter.all false
namespace Go.Ab
inductive Tr where
  | leaf
  | node (o : Obj) (l r : Tr)
def Tr.get : Tr → Nat → Obj
  | .leaf, _ => .dead
  | .node o l r, n => if n = 0 then o else if n % 2 = 1 then l.get (n / 2) else r.get (n / 2 - 1)
def Tr.put : Nat → Tr → Nat → Obj → Option Tr
  | 0, _, _, _ => none
  | f + 1, t, n, o => match t with
    | .leaf => if n = 0 then some (.node o .leaf .leaf) else if n % 2 = 1 then (Tr.put f .leaf (n / 2) o).map fun l => .node .dead l .leaf else (Tr.put f .leaf (n / 2 - 1) o).map fun r => .node .dead .leaf r
    | .node x l r => if n = 0 then some (.node o l r) else if n % 2 = 1 then (Tr.put f l (n / 2) o).map fun l => .node x l r else (Tr.put f r (n / 2 - 1) o).map fun r => .node x l r
theorem Tr.get_put : ∀ (f : Nat) (t : Tr) (n : Nat) (o : Obj) (t' : Tr), Tr.put f t n o = some t' → ∀ m, t'.get m = if m = n then o else t.get m
  | 0, _, _, _, _, h, _ => by cases h
  | f + 1, t, n, o, t', h, m => by
    cases t with
    | leaf =>
      simp only [Tr.put] at h
      split at h
      · rename_i hn; subst hn; cases h; simp only [Tr.get]; by_cases hm : m = 0 <;> simp [hm]
      · rename_i hn
        split at h
        · rename_i h2
          obtain ⟨l, h3, h4⟩ := Option.map_eq_some_iff.1 h
          subst h4
          simp only [Tr.get]
          have ih := Tr.get_put f .leaf (n / 2) o l h3
          by_cases hm : m = 0
          · rw [if_pos hm, if_neg (by omega)]
          · rw [if_neg hm]
            by_cases m2 : m % 2 = 1
            · rw [if_pos m2, ih]
              by_cases e : m / 2 = n / 2
              · rw [if_pos e, if_pos (by omega)]
              · rw [if_neg e, if_neg (by omega)]; rfl
            · rw [if_neg m2, if_neg (by omega)]
        · rename_i h2
          obtain ⟨l, h3, h4⟩ := Option.map_eq_some_iff.1 h
          subst h4
          simp only [Tr.get]
          have ih := Tr.get_put f .leaf (n / 2 - 1) o l h3
          by_cases hm : m = 0
          · rw [if_pos hm, if_neg (by omega)]
          · rw [if_neg hm]
            by_cases m2 : m % 2 = 1
            · rw [if_pos m2, if_neg (by omega)]
            · rw [if_neg m2, ih]
              by_cases e : m / 2 - 1 = n / 2 - 1
              · rw [if_pos e, if_pos (by omega)]
              · rw [if_neg e, if_neg (by omega)]; rfl
    | node x l r =>
      simp only [Tr.put] at h
      split at h
      · rename_i hn; subst hn; cases h; simp only [Tr.get]; by_cases hm : m = 0 <;> simp [hm]
      · rename_i hn
        split at h
        · rename_i h2
          obtain ⟨l', h3, h4⟩ := Option.map_eq_some_iff.1 h
          subst h4
          simp only [Tr.get]
          have ih := Tr.get_put f l (n / 2) o l' h3
          by_cases hm : m = 0
          · rw [if_pos hm, if_neg (by omega), if_pos hm]
          · rw [if_neg hm, if_neg hm]
            by_cases m2 : m % 2 = 1
            · rw [if_pos m2, if_pos m2, ih]
              by_cases e : m / 2 = n / 2
              · rw [if_pos e, if_pos (by omega)]
              · rw [if_neg e, if_neg (by omega)]
            · rw [if_neg m2, if_neg m2, if_neg (by omega)]
        · rename_i h2
          obtain ⟨r', h3, h4⟩ := Option.map_eq_some_iff.1 h
          subst h4
          simp only [Tr.get]
          have ih := Tr.get_put f r (n / 2 - 1) o r' h3
          by_cases hm : m = 0
          · rw [if_pos hm, if_neg (by omega), if_pos hm]
          · rw [if_neg hm, if_neg hm]
            by_cases m2 : m % 2 = 1
            · rw [if_pos m2, if_pos m2, if_neg (by omega)]
            · rw [if_neg m2, if_neg m2, ih]
              by_cases e : m / 2 - 1 = n / 2 - 1
              · rw [if_pos e, if_pos (by omega)]
              · rw [if_neg e, if_neg (by omega)]
structure EH where
  next : Nat
  t : Tr
def EH.hp (E : EH) : Heap := ⟨E.next, E.t.get⟩
def EH.put (E : EH) (b : Nat) (o : Obj) : Option EH := (Tr.put 40 E.t b o).map fun t => ⟨E.next, t⟩
def EH.new (E : EH) (o : Obj) : Option EH := (Tr.put 40 E.t E.next o).map fun t => ⟨E.next + 1, t⟩
theorem EH.put_hp {E E' : EH} {b : Nat} {o : Obj} (h : E.put b o = some E') : E'.hp = E.hp.put b o := by
  unfold EH.put at h
  obtain ⟨t, h1, h2⟩ := Option.map_eq_some_iff.1 h
  subst h2
  unfold EH.hp Heap.put
  congr 1
  funext m
  exact Tr.get_put 40 E.t b o t h1 m
theorem EH.new_hp {E E' : EH} {o : Obj} (h : E.new o = some E') : E'.hp = E.hp.new o := by
  unfold EH.new at h
  obtain ⟨t, h1, h2⟩ := Option.map_eq_some_iff.1 h
  subst h2
  unfold EH.hp Heap.new
  congr 1
  funext m
  exact Tr.get_put 40 E.t E.next o t h1 m
mutual
def veq : V → V → Bool
  | .bool a, .bool b => a == b
  | .int k a, .int k' b => decide (k = k') && decide (a = b)
  | .flt k a, .flt k' b => decide (k = k') && decide (a = b)
  | .str a, .str b => decide (a = b)
  | .ptr a, .ptr b => decide (a = b)
  | .sl a l c e, .sl a' l' c' e' => decide (a = a') && decide (l = l') && decide (c = c') && decide (e = e')
  | .map a, .map b => decide (a = b)
  | .fn g f c, .fn g' f' c' => decide (g = g') && veqL f f' && veqL c c'
  | .nilfn, .nilfn => true
  | .ifc t v, .ifc t' v' => decide (t = t') && veq v v'
  | .nilifc, .nilifc => true
  | .agg l, .agg l' => veqL l l'
  | .tup l, .tup l' => veqL l l'
  | .un, .un => true
  | _, _ => false
def veqL : List V → List V → Bool
  | [], [] => true
  | a :: l, b :: m => veq a b && veqL l m
  | _, _ => false
end
mutual
theorem veq_eq : ∀ (a b : V), veq a b = true → a = b := fun a b h => by
  cases a <;> cases b <;> simp only [veq, Bool.and_eq_true, decide_eq_true_eq, beq_iff_eq, Bool.false_eq_true] at h
  case bool.bool => rw [h]
  case int.int => rw [h.1, h.2]
  case flt.flt => rw [h.1, h.2]
  case str.str => rw [h]
  case ptr.ptr => rw [h]
  case sl.sl => rw [h.1.1.1, h.1.1.2, h.1.2, h.2]
  case map.map => rw [h]
  case fn.fn => rw [h.1.1, veqL_eq _ _ h.1.2, veqL_eq _ _ h.2]
  case nilfn.nilfn => rfl
  case ifc.ifc => rw [h.1, veq_eq _ _ h.2]
  case nilifc.nilifc => rfl
  case agg.agg => rw [veqL_eq _ _ h]
  case tup.tup => rw [veqL_eq _ _ h]
  case un.un => rfl
theorem veqL_eq : ∀ (a b : List V), veqL a b = true → a = b := fun a b h => by
  cases a with
  | nil => cases b with
    | nil => rfl
    | cons y m => simp [veqL] at h
  | cons x l => cases b with
    | nil => simp [veqL] at h
    | cons y m =>
      simp only [veqL, Bool.and_eq_true] at h
      rw [veq_eq _ _ h.1, veqL_eq _ _ h.2]
end
def wrE (E : EH) (b o : Nat) (vs : List V) : Option EH :=
  match E.t.get b with
  | .cells l true => if o + vs.length ≤ l.length then (if vs.all one then E.put b (.cells (over l o vs) true) else none) else none
  | _ => none
theorem wrE_hp {E E' : EH} {b o : Nat} {vs : List V} (h : wrE E b o vs = some E') : wr E.hp b o vs = some E'.hp := by
  unfold wrE at h
  unfold wr
  split at h
  · rename_i l hg
    have hg' : E.hp.get b = .cells l true := hg
    rw [hg']
    split at h
    · rename_i hl
      split at h
      · rename_i ho
        dsimp only
        rw [if_pos hl, if_pos ho, EH.put_hp h]
      · cases h
    · cases h
  · cases h
def appE (E : EH) (esz eb : Nat) (x y : V) : Option (V × EH) :=
  match x, firsts E.hp esz y with
  | .sl a len cap e, some (n, new) =>
    if a.isSome && e != esz then none else
    if new.all one then
    if len + n ≤ cap then
      match a with
      | some (b, o) => if new.isEmpty then some (.sl (some (b, o)) (len + n) cap esz, E) else (wrE E b (o + len * esz) new).map fun H' => (.sl (some (b, o)) (len + n) cap esz, H')
      | none => some (.sl none 0 0 0, E)
    else if growOk a (len + n) eb then
      match a with
      | none => if len = 0 then (E.new (.cells new true)).map fun E' => (.sl (some (E.next, 0)) n n esz, E') else none
      | some (b, o) => match E.t.get b with
        | .cells l true => match piece l o (len * esz) with
          | some old => ((E.put b .dead).bind fun E' => E'.new (.cells (old ++ new) true)).map fun E' => (.sl (some (E.next, 0)) (len + n) (len + n) esz, E')
          | none => none
        | _ => none
    else none
    else none
  | _, _ => none
theorem appE_hp {E E' : EH} {esz eb : Nat} {x y v : V} (h : appE E esz eb x y = some (v, E')) : app E.hp esz eb x y = some (v, E'.hp) := by
  unfold appE at h
  unfold app
  split at h
  · rename_i a len cap e n new hf
    rw [hf]
    dsimp only
    split at h
    · cases h
    · rename_i h1
      rw [if_neg h1]
      split at h
      · rename_i h2
        rw [if_pos h2]
        split at h
        · rename_i h3
          rw [if_pos h3]
          split at h
          · rename_i b o
            split at h
            · rename_i h4; dsimp only; rw [if_pos h4]; cases h; rfl
            · rename_i h4
              obtain ⟨E1, k1, k2⟩ := Option.map_eq_some_iff.1 h
              cases k2
              dsimp only
              rw [if_neg h4, wrE_hp k1]; rfl
          · cases h; rfl
        · rename_i h3
          rw [if_neg h3]
          split at h
          · rename_i h4
            rw [if_pos h4]
            split at h
            · split at h
              · rename_i h5
                obtain ⟨E1, k1, k2⟩ := Option.map_eq_some_iff.1 h
                cases k2
                dsimp only
                rw [if_pos h5, EH.new_hp k1]; rfl
              · cases h
            · rename_i b o
              split at h
              · rename_i l hg
                split at h
                · rename_i old hp
                  obtain ⟨E1, k1, k2⟩ := Option.map_eq_some_iff.1 h
                  cases k2
                  obtain ⟨E2, k3, k4⟩ := Option.bind_eq_some_iff.1 k1
                  have hg' : E.hp.get b = .cells l true := hg
                  dsimp only
                  rw [hg']
                  dsimp only
                  rw [hp]
                  dsimp only
                  rw [EH.new_hp k4, EH.put_hp k3]; rfl
                · cases h
              · cases h
          · cases h
      · cases h
  · cases h
def cpyE (E : EH) (esz : Nat) (x y : V) : Option (V × EH) :=
  match x, firsts E.hp esz y with
  | .sl a dlen _ e, some (n, new) =>
    if a.isSome && e != esz then none else
    let m := min n dlen
    match a with
    | none => some (.int .i64 0, E)
    | some (b, o) => if m * esz = 0 then some (.int .i64 m, E) else (wrE E b o (new.take (m * esz))).map fun H' => (.int .i64 m, H')
  | _, _ => none
theorem cpyE_hp {E E' : EH} {esz : Nat} {x y v : V} (h : cpyE E esz x y = some (v, E')) : cpy E.hp esz x y = some (v, E'.hp) := by
  unfold cpyE at h
  unfold cpy
  split at h
  · rename_i a dlen cap e n new hf
    rw [hf]
    dsimp only
    split at h
    · cases h
    · rename_i h1
      rw [if_neg h1]
      cases a with
      | none => dsimp only at h ⊢; cases h; rfl
      | some bo =>
        obtain ⟨b, o⟩ := bo
        dsimp only at h ⊢
        split at h
        · rename_i h2; rw [if_pos h2]; cases h; rfl
        · rename_i h2
          rw [if_neg h2]
          obtain ⟨E1, k1, k2⟩ := Option.map_eq_some_iff.1 h
          cases k2
          rw [wrE_hp k1]; rfl
  · cases h
/-- Does it change memory? -/
def AOp.heavy : AOp → Bool
  | .store _ _ _ | .append _ _ _ _ | .copy _ _ _ | .alloc _ | .box _ _ | .bslice _ _ _ _ | .mkslice _ _ _ _ _ => true
  | _ => false
theorem step_light {fr : Fr} {H H' : Heap} {op : AOp} {v : V} (hh : op.heavy = false) (h : step fr H op = some (v, H')) : H' = H := by
  cases op
  case store => exact Bool.noConfusion (show true = false from hh)
  case append => exact Bool.noConfusion (show true = false from hh)
  case copy => exact Bool.noConfusion (show true = false from hh)
  case alloc => exact Bool.noConfusion (show true = false from hh)
  case box => exact Bool.noConfusion (show true = false from hh)
  case bslice => exact Bool.noConfusion (show true = false from hh)
  case mkslice => exact Bool.noConfusion (show true = false from hh)
  case len arr x =>
    cases arr with
    | none =>
      simp only [step] at h
      split at h
      · cases h; rfl
      · cases h
    | some n =>
      simp only [step] at h
      obtain ⟨_, _, k⟩ := Option.map_eq_some_iff.1 h; cases k; rfl
  all_goals simp only [step, fresh] at h
  all_goals (try (repeat' (split at h)))
  all_goals first
    | (cases h; done)
    | (cases h; rfl)
    | (obtain ⟨_, _, k⟩ := Option.map_eq_some_iff.1 h; cases k; rfl)
def stepE (fr : Fr) (E : EH) (op : AOp) : Option (V × EH) :=
  match op with
  | .store n a x => match opd fr a, opd fr x with
    | some (.ptr (some (b, o))), some v => if v.cells.length = n then (wrE E b o v.cells).map fun H' => (.un, H') else none
    | _, _ => none
  | .append esz eb x y => match opd fr x, opd fr y with
    | some a, some b => appE E esz eb a b
    | _, _ => none
  | .copy esz x y => match opd fr x, opd fr y with
    | some a, some b => cpyE E esz a b
    | _, _ => none
  | op => if op.heavy then (match fresh fr op with
      | some (cs, v) => (E.new (.cells cs true)).map fun E' => (v E.next, E')
      | none => none)
    else (step fr E.hp op).map fun x => (x.1, E)
theorem stepE_hp {fr : Fr} {E E' : EH} {op : AOp} {v : V} (h : stepE fr E op = some (v, E')) : step fr E.hp op = some (v, E'.hp) := by
  have light : ∀ op : AOp, op.heavy = false → (step fr E.hp op).map (fun x => (x.1, E)) = some (v, E') → step fr E.hp op = some (v, E'.hp) := fun op hh h => by
    obtain ⟨⟨v', H'⟩, k1, k2⟩ := Option.map_eq_some_iff.1 h
    cases k2
    rw [k1, step_light hh k1]
  have lay : ∀ op : AOp, (∀ H, step fr H op = match fresh fr op with | some (cs, v) => some (v H.next, H.new (.cells cs true)) | none => none) → (match fresh fr op with | some (cs, v) => (E.new (.cells cs true)).map fun E' => (v E.next, E') | none => none) = some (v, E') → step fr E.hp op = some (v, E'.hp) := fun op e h => by
    rw [e]
    split at h
    · rename_i cs mk hf
      obtain ⟨E1, k1, k2⟩ := Option.map_eq_some_iff.1 h
      cases k2
      rw [EH.new_hp k1]; rfl
    · cases h
  cases op
  case store n a x =>
    simp only [stepE] at h
    simp only [step]
    split at h
    · rename_i b o v0 e1 e2
      rw [e1, e2]
      dsimp only
      split at h
      · rename_i hn
        obtain ⟨E1, k1, k2⟩ := Option.map_eq_some_iff.1 h
        cases k2
        rw [if_pos hn, wrE_hp k1]; rfl
      · cases h
    · cases h
  case append esz eb x y =>
    simp only [stepE] at h
    simp only [step]
    split at h
    · rename_i a b e1 e2
      rw [e1, e2]
      exact appE_hp h
    · cases h
  case copy esz x y =>
    simp only [stepE] at h
    simp only [step]
    split at h
    · rename_i a b e1 e2
      rw [e1, e2]
      exact cpyE_hp h
    · cases h
  case alloc z => exact lay (.alloc z) (fun H => rfl) (by simpa [stepE, AOp.heavy] using h)
  case box n x => exact lay (.box n x) (fun H => rfl) (by simpa [stepE, AOp.heavy] using h)
  case bslice e z l ps => exact lay (.bslice e z l ps) (fun H => rfl) (by simpa [stepE, AOp.heavy] using h)
  case mkslice e eb z l c => exact lay (.mkslice e eb z l c) (fun H => rfl) (by simpa [stepE, AOp.heavy] using h)
  all_goals exact light _ rfl (by simpa only [stepE, AOp.heavy, Bool.false_eq_true, if_false] using h)
def mpE (fr : Fr) (E : EH) (d : Option Nat) (q : MOp) : Option (Fr × EH) :=
  match q with
  | .mk => (E.new (.map [])).map fun E' => (fr.put d (.map (some E.next)), E')
  | .look z ok m k => match opd fr m, opd fr k with
    | some (.map (some r)), some (.int .i64 n) => (match E.t.get r with
      | .map es => (match mget es n with
        | some v => some (fr.put d (if ok then .tup [v, .bool true] else v), E)
        | none => some (fr.put d (if ok then .tup [z, .bool false] else z), E))
      | .dmap es => (match mget es n with
        | some v => some (fr.put d (if ok then .tup [v, .bool true] else v), E)
        | none => some (fr.put d (if ok then .tup [z, .bool false] else z), E))
      | _ => none)
    | _, _ => none
  | .upd m k v => match opd fr m, opd fr k, opd fr v with
    | some (.map (some r)), some (.int .i64 n), some v => (match E.t.get r with
      | .map es => (E.put r (.map (mput es n v))).map fun E' => (fr.put d .un, E')
      | .dmap es => (E.put r (.dmap (mput es n v))).map fun E' => (fr.put d .un, E')
      | _ => none)
    | _, _, _ => none
  | .range m => match opd fr m with
    | some (.map (some r)) => (match E.t.get r with
      | .map es => (E.new (.iter r es.length [])).map fun E' => (fr.put d (.ptr (some (E.next, 0))), E')
      | _ => none)
    | _ => none
  | .next it => match opd fr it with
    | some (.ptr (some (b, 0))) => (match E.t.get b with
      | .iter r since seen => (match E.t.get r with
        | .map es => if es.length = since then (match es, seen with
          | [], _ => some (fr.put d (.tup [.bool false]), E)
          | [_], [0] => some (fr.put d (.tup [.bool false]), E)
          | [e], [] => (E.put b (.iter r since [0])).map fun E' => (fr.put d (.tup [.bool true, .int .i64 e.1, e.2]), E')
          | _, _ => none) else none
        | _ => none)
      | _ => none)
    | _ => none
  | .entry it => match opd fr it with
    | some (.ptr (some (b, 0))) => (match E.t.get b with
      | .iter r since seen => (match E.t.get r, seen.getLast? with
        | .map es, some i => (match es[i]? with
          | some e => if es.length = since then some (fr.put d (.tup [.int .i64 e.1, e.2]), E) else none
          | none => none)
        | _, _ => none)
      | _ => none)
    | _ => none
  | .app2 _ _ _ _ => none
  | .del m k => match opd fr m, opd fr k with
    | some (.map (some r)), some (.int .i64 n) => (match E.t.get r with
      | .map es => (match mget es n with
        | some _ => (E.put r (.dmap (mdel es n))).map fun E' => (fr.put d .un, E')
        | none => (E.put r (.map es)).map fun E' => (fr.put d .un, E'))
      | .dmap es => (E.put r (.dmap (mdel es n))).map fun E' => (fr.put d .un, E')
      | _ => none)
    | _, _ => none
  | .mark x => match opd fr x with
    | some (.sl (some (b, o)) n c e) => (match E.t.get b with
      | .cells l true => if 0 < c then (E.put b (.cells l true)).map fun E' => (fr.put d (.sl (some (b, o)) n c e), E') else none
      | _ => none)
    | _ => none
  | .s2b x => match opd fr x with
    | some (.str s) => (E.new (.cells (s.data.toList.map fun b => .int .u8 b.toNat) true)).map fun E' => (fr.put d (.sl (some (E.next, 0)) s.size s.size 1), E')
    | _ => none
  | .b2s x => match opd fr x with
    | some (.sl b n c e) => (match firsts E.hp 1 (.sl b n c e) with
      | some (_, cs) => (match u8sO cs with
        | some ns => some (fr.put d (.str (strOf ns)), E)
        | none => none)
      | none => none)
    | _ => none
theorem mpE_hp {fr fr' : Fr} {E E' : EH} {d : Option Nat} {q : MOp} {K : Fr → Heap → Prop} (h : mpE fr E d q = some (fr', E')) (k : K fr' E'.hp) : evM fr E.hp d q K := by
  have hg : ∀ b, E.hp.get b = E.t.get b := fun _ => rfl
  cases q with
  | mk =>
    simp only [mpE] at h
    obtain ⟨E1, k1, k2⟩ := Option.map_eq_some_iff.1 h
    cases k2
    rw [EH.new_hp k1] at k
    exact k
  | look z ok m kk =>
    simp only [mpE] at h
    simp only [evM]
    split at h
    · rename_i r n e1 e2
      rw [e1, e2]
      (try dsimp only)
      rw [hg]
      split at h
      · rename_i es he
        rw [he]
        (try dsimp only)
        split at h
        · rename_i v hv; rw [hv]; cases h; exact k
        · rename_i hv; rw [hv]; cases h; exact k
      · rename_i es he
        rw [he]
        (try dsimp only)
        split at h
        · rename_i v hv; rw [hv]; cases h; exact k
        · rename_i hv; rw [hv]; cases h; exact k
      · cases h
    · cases h
  | upd m kk v =>
    simp only [mpE] at h
    simp only [evM]
    split at h
    · rename_i r n v e1 e2 e3
      rw [e1, e2, e3]
      (try dsimp only)
      rw [hg]
      split at h
      · rename_i es he
        rw [he]
        obtain ⟨E1, k1, k2⟩ := Option.map_eq_some_iff.1 h
        cases k2
        rw [EH.put_hp k1] at k
        exact k
      · rename_i es he
        rw [he]
        obtain ⟨E1, k1, k2⟩ := Option.map_eq_some_iff.1 h
        cases k2
        rw [EH.put_hp k1] at k
        exact k
      · cases h
    · cases h
  | range m =>
    simp only [mpE] at h
    simp only [evM]
    split at h
    · rename_i r e1
      rw [e1]
      (try dsimp only)
      rw [hg]
      split at h
      · rename_i es he
        rw [he]
        obtain ⟨E1, k1, k2⟩ := Option.map_eq_some_iff.1 h
        cases k2
        rw [EH.new_hp k1] at k
        exact k
      · cases h
    · cases h
  | next it =>
    simp only [mpE] at h
    simp only [evM]
    split at h
    · rename_i b e1
      rw [e1]
      split
      rotate_left
      · rename_i hne; exact (hne b rfl).elim
      rename_i b' heq
      cases heq
      rw [hg]
      split at h
      · rename_i r since seen he
        rw [he]
        (try dsimp only)
        rw [hg]
        split at h
        · rename_i es hes
          rw [hes]
          (try dsimp only)
          split at h
          · rename_i hl
            split at h
            · cases h
              exact ⟨hl, fun _ => k, fun i e he => by simp at he⟩
            · cases h
              refine ⟨hl, fun _ => k, fun i e he hi => ?_⟩
              cases i with
              | zero => exact absurd (List.mem_singleton.2 rfl) hi
              | succ i => simp at he
            · rename_i e
              obtain ⟨E1, k1, k2⟩ := Option.map_eq_some_iff.1 h
              cases k2
              refine ⟨hl, fun hc => ?_, fun i e' he' hi => ?_⟩
              · have := hc 0 (by simp); cases this
              · cases i with
                | zero =>
                  simp at he'; subst he'
                  rw [EH.put_hp k1] at k
                  exact k
                | succ i => simp at he'
            · cases h
          · cases h
        · cases h
      · cases h
    · cases h
  | entry it =>
    simp only [mpE] at h
    simp only [evM]
    split at h
    · rename_i b e1
      rw [e1]
      split
      rotate_left
      · rename_i hne; exact (hne b rfl).elim
      rename_i b' heq
      cases heq
      rw [hg]
      split at h
      · rename_i r since seen he
        rw [he]
        (try dsimp only)
        rw [hg]
        split at h
        · rename_i es i hes hi
          rw [hes, hi]
          (try dsimp only)
          split at h
          · rename_i e hee
            rw [hee]
            (try dsimp only)
            split at h
            · rename_i hl; cases h; exact ⟨hl, k⟩
            · cases h
          · cases h
        · cases h
      · cases h
    · cases h
  | app2 _ _ _ _ => cases h
  | del m kk =>
    simp only [mpE] at h
    simp only [evM]
    split at h
    · rename_i r n e1 e2
      rw [e1, e2]
      (try dsimp only)
      rw [hg]
      split at h
      · rename_i es he
        rw [he]
        (try dsimp only)
        split at h
        · rename_i v hv
          rw [hv]
          obtain ⟨E1, k1, k2⟩ := Option.map_eq_some_iff.1 h
          cases k2
          rw [EH.put_hp k1] at k
          exact k
        · rename_i hv
          rw [hv]
          obtain ⟨E1, k1, k2⟩ := Option.map_eq_some_iff.1 h
          cases k2
          rw [EH.put_hp k1] at k
          exact k
      · rename_i es he
        rw [he]
        obtain ⟨E1, k1, k2⟩ := Option.map_eq_some_iff.1 h
        cases k2
        rw [EH.put_hp k1] at k
        exact k
      · cases h
    · cases h
  | mark x =>
    simp only [mpE] at h
    simp only [evM]
    split at h
    · rename_i b o n c e e1
      rw [e1]
      (try dsimp only)
      rw [hg]
      split at h
      · rename_i l he
        rw [he]
        split at h
        · rename_i hc
          obtain ⟨E1, k1, k2⟩ := Option.map_eq_some_iff.1 h
          cases k2
          rw [EH.put_hp k1] at k
          exact ⟨hc, k⟩
        · cases h
      · cases h
    · cases h
  | s2b x =>
    simp only [mpE] at h
    simp only [evM]
    split at h
    · rename_i st e1
      rw [e1]
      obtain ⟨E1, k1, k2⟩ := Option.map_eq_some_iff.1 h
      cases k2
      rw [EH.new_hp k1] at k
      exact k
    · cases h
  | b2s x =>
    simp only [mpE] at h
    simp only [evM]
    split at h
    · rename_i b n c e e1
      rw [e1]
      (try dsimp only)
      split at h
      · rename_i n' cs e2
        rw [e2]
        (try dsimp only)
        split at h
        · rename_i ns e3
          rw [e3]
          cases h
          exact k
        · cases h
      · cases h
    · cases h
abbrev CE := Nat → List V → EH → Option (Out × EH)
def opE (C : CE) (fr : Fr) (E : EH) (o : AOper) : Option (Sum (Fr × EH) (V × EH)) :=
  match o.op with
  | .call f args => match callee fr f args with
    | some (g, l) => match C g l E with
      | some (.ret v, E') => some (.inl (fr.put o.dst v, E'))
      | some (.pan v, E') => some (.inr (v, E'))
      | none => none
    | none => none
  | .dfr f args => match callee fr f args with
    | some (g, l) => some (.inl (⟨(fr.put o.dst .un).tm, (g, l) :: fr.ds⟩, E))
    | none => none
  | .pan x => match opd fr x with
    | some (.ifc t v) => some (.inr (.ifc t v, E))
    | _ => none
  | .mp q => (mpE fr E o.dst q).map .inl
  | .yc f args => match opd fr f, opds fr args with
    | some (.yld y b), some l => match C y (.yld y b :: l) E with
      | some (.ret v, E') => some (.inl (fr.put o.dst v, E'))
      | _ => none
    | _, _ => none
  | p => (stepE fr E p).map fun x => .inl (fr.put o.dst x.1, x.2)
def CEok (C : CE) (D : CallT) : Prop := ∀ g l E o E', C g l E = some (o, E') → ∀ Q : Out → Heap → Prop, Q o E'.hp → D g l E.hp Q
theorem opE_hp {C : CE} {D : CallT} (hC : CEok C D) {fr : Fr} {E : EH} {o : AOper} {r : Sum (Fr × EH) (V × EH)} {K : Fr → Heap → Prop} {X : V → Heap → Prop} (h : opE C fr E o = some r)
    (k : match r with | .inl (fr', E') => K fr' E'.hp | .inr (v, E') => X v E'.hp) : evOp D fr E.hp o K X := by
  have gen : ∀ p : AOp, (match stepE fr E p with | some (v, E') => some (Sum.inl (fr.put o.dst v, E')) | none => none) = some r → (match step fr E.hp p with | some (v, H') => K (fr.put o.dst v) H' | none => False) := fun p h => by
    split at h
    · rename_i v E1 hs
      cases h
      rw [stepE_hp hs]
      exact k
    · cases h
  have gen' : ∀ p : AOp, (stepE fr E p).map (fun x => (Sum.inl (fr.put o.dst x.1, x.2) : Sum (Fr × EH) (V × EH))) = some r → (match step fr E.hp p with | some (v, H') => K (fr.put o.dst v) H' | none => False) := fun p h => gen p (by
    cases hs : stepE fr E p with
    | none => rw [hs] at h; cases h
    | some x => rw [hs] at h; exact h)
  unfold opE at h
  unfold evOp
  cases ho : o.op
  case call f args =>
    rw [ho] at h
    dsimp only at h ⊢
    split at h
    · rename_i g l hc
      rw [hc]
      (try dsimp only)
      split at h
      · rename_i v E1 he; cases h; exact hC g l E _ E1 he _ k
      · rename_i v E1 he; cases h; exact hC g l E _ E1 he _ k
      · cases h
    · cases h
  case dfr f args =>
    rw [ho] at h
    dsimp only at h ⊢
    split at h
    · rename_i g l hc; rw [hc]; cases h; exact k
    · cases h
  case pan x =>
    rw [ho] at h
    dsimp only at h ⊢
    split at h
    · rename_i t v hv; rw [hv]; cases h; exact k
    · cases h
  case mp q =>
    rw [ho] at h
    dsimp only at h ⊢
    obtain ⟨⟨fr', E'⟩, k1, k2⟩ := Option.map_eq_some_iff.1 h
    cases k2
    exact mpE_hp k1 k
  case yc f args =>
    rw [ho] at h
    dsimp only at h ⊢
    split at h
    · rename_i y b l e1 e2
      rw [e1, e2]
      (try dsimp only)
      split at h
      · rename_i v E1 he; cases h; exact hC y _ E _ E1 he _ k
      · cases h
    · cases h
  all_goals
    rw [ho] at h
    exact gen' _ h
def opsE (C : CE) : List AOper → Fr → EH → Option (Sum (Fr × EH) (Fr × V × EH))
  | [], fr, E => some (.inl (fr, E))
  | o :: r, fr, E => match (match o.g with
      | none => some true
      | some (t, want) => match fr.get t with
        | some (.bool b) => some (b == want)
        | some (.tup []) => some false
        | _ => none) with
    | some true => (match opE C fr E o with
      | some (.inl (fr', E')) => opsE C r fr' E'
      | some (.inr (v, E')) => some (.inr (fr, v, E'))
      | none => none)
    | some false => opsE C r (fr.put o.dst (.tup [])) E
    | none => none
def goes (fr : Fr) (o : AOper) : Option Bool := match o.g with
  | none => some true
  | some (t, want) => match fr.get t with
    | some (.bool b) => some (b == want)
    | some (.tup []) => some false
    | _ => none
theorem opsE_hp {C : CE} {D : CallT} (hC : CEok C D) {X : Fr → V → Heap → Prop} {K : Fr → Heap → Prop} : ∀ (ops : List AOper) (fr : Fr) (E : EH) (r : Sum (Fr × EH) (Fr × V × EH)), opsE C ops fr E = some r →
    (match r with | .inl (fr', E') => K fr' E'.hp | .inr (fr', v, E') => X fr' v E'.hp) → evOps D X K ops fr E.hp
  | [], fr, E, r, h, k => by cases h; exact k
  | o :: l, fr, E, r, h, k => by
    have main : (match opE C fr E o with | some (.inl (fr', E')) => opsE C l fr' E' | some (.inr (v, E')) => some (.inr (fr, v, E')) | none => none) = some r → evOp D fr E.hp o (evOps D X K l) (X fr) := fun h => by
      split at h
      · rename_i fr' E' he
        exact opE_hp hC he (opsE_hp hC l fr' E' r h k)
      · rename_i v E' he
        cases h
        exact opE_hp hC he k
      · cases h
    simp only [opsE] at h
    simp only [evOps]
    cases hg : o.g with
    | none => rw [hg] at h; exact main h
    | some tw =>
      obtain ⟨t, want⟩ := tw
      rw [hg] at h
      dsimp only at h ⊢
      cases hv : fr.get t with
      | none => rw [hv] at h; cases h
      | some v =>
        rw [hv] at h
        cases v <;> (try (cases h; done))
        case bool b =>
          dsimp only at h ⊢
          unfold gif
          cases hb : b == want with
          | true => rw [hb] at h; rw [if_pos rfl]; exact main h
          | false => rw [hb] at h; rw [if_neg (by decide)]; exact opsE_hp hC l _ E r h k
        case tup l' =>
          cases l' with
          | nil => exact opsE_hp hC l _ E r h k
          | cons a b => cases h
def blkOf : V → Option Nat
  | .ptr (some (b, 0)) => some b
  | .sl (some (b, 0)) _ _ _ => some b
  | _ => none
def cellsEq (o : Obj) (cs : List V) : Bool := match o with
  | .cells l true => veqL l cs
  | _ => false
def recheckB (fr : Fr) (E : EH) (y : AOper) : Bool := match y.dst with
  | none => false
  | some t => match fresh fr y.op with
    | some (cs, mk) => (match fr.get t with
      | some v => (match blkOf v with
        | some b => veq v (mk b) && cellsEq (E.t.get b) cs
        | none => false)
      | none => false)
    | none => (match fr.get t, step fr E.hp y.op with
      | some v, some (v', _) => !y.op.heavy && veq v' v
      | _, _ => false)
theorem recheckB_ok {fr : Fr} {E : EH} {y : AOper} (h : recheckB fr E y = true) : recheck fr E.hp y := by
  unfold recheckB at h
  unfold recheck
  split at h
  · cases h
  · rename_i t ht
    rw [ht]
    dsimp only
    split at h
    · rename_i cs mk hf
      rw [hf]
      dsimp only
      split at h
      · rename_i v hv
        split at h
        · rename_i b hb
          rw [Bool.and_eq_true] at h
          refine ⟨b, by rw [hv, veq_eq _ _ h.1], ?_⟩
          have h2 := h.2
          unfold cellsEq at h2
          split at h2
          · rename_i l hl
            show E.t.get b = _
            rw [hl, veqL_eq _ _ h2]
          · cases h2
        · cases h
      · cases h
    · rename_i hf
      rw [hf]
      dsimp only
      split at h
      · rename_i v v' H' hv hs
        rw [Bool.and_eq_true, Bool.not_eq_true'] at h
        refine ⟨v, hv, ?_⟩
        rw [hs, step_light h.1 hs, veq_eq _ _ h.2]
      · cases h
def rechecksB (fr : Fr) (E : EH) (re : List Nat) : List AOper → Bool
  | [] => true
  | y :: acc => (if re.contains y.ix then ((match y.g with | some (t, want) => (match fr.get t with | some (.bool b) => b == !want | some (.tup []) => true | _ => false) | none => false) || recheckB fr E y) else true) && rechecksB fr E re acc
theorem rechecksB_ok {fr : Fr} {E : EH} {re : List Nat} : ∀ {acc : List AOper}, rechecksB fr E re acc = true → rechecks fr E.hp re acc
  | [], _ => trivial
  | y :: acc, h => by
    simp only [rechecksB, Bool.and_eq_true] at h
    refine ⟨?_, rechecksB_ok h.2⟩
    have h1 := h.1
    split at h1
    · rename_i hc
      rw [if_pos hc]
      rw [Bool.or_eq_true] at h1
      refine h1.imp (fun h1 => ?_) recheckB_ok
      split at h1
      · rename_i t want hg
        rw [hg]
        split at h1
        · rename_i b hb
          left
          rw [hb, show b = !want by simpa using h1]
        · rename_i hb; right; exact hb
        · cases h1
      · cases h1
    · rename_i hc; rw [if_neg hc]; trivial
def dE (C : CE) : List AOper → List AOper → Fr → EH → Option (Sum (Fr × EH) (Fr × V × EH))
  | _, [], fr, E => some (.inl (fr, E))
  | acc, o :: r, fr, E => match goes fr o with
    | some true => (match opE C fr E o with
      | some (.inl (fr', E')) => if o.re.isEmpty || rechecksB fr' E' o.re acc then dE C (o :: acc) r fr' E' else none
      | some (.inr (v, E')) => some (.inr (fr, v, E'))
      | none => none)
    | some false => dE C (o :: acc) r (fr.put o.dst (.tup [])) E
    | none => none
theorem dE_hp {C : CE} {D : CallT} (hC : CEok C D) {X : Fr → V → Heap → Prop} {K : Fr → Heap → Prop} : ∀ (ops acc : List AOper) (fr : Fr) (E : EH) (r : Sum (Fr × EH) (Fr × V × EH)), dE C acc ops fr E = some r →
    (match r with | .inl (fr', E') => K fr' E'.hp | .inr (fr', v, E') => X fr' v E'.hp) → evD D X K acc ops fr E.hp
  | [], acc, fr, E, r, h, k => by simp only [dE] at h; cases h; exact k
  | o :: l, acc, fr, E, r, h, k => by
    have main : (match opE C fr E o with | some (.inl (fr', E')) => if (o.re.isEmpty || rechecksB fr' E' o.re acc) = true then dE C (o :: acc) l fr' E' else none | some (.inr (v, E')) => some (.inr (fr, v, E')) | none => none) = some r →
        evOp D fr E.hp o (fun fr' H' => (o.re = [] ∨ rechecks fr' H' o.re acc) ∧ evD D X K (o :: acc) l fr' H') (X fr) := fun h => by
      split at h
      · rename_i fr' E' he
        split at h
        · rename_i hc
          refine opE_hp hC he ⟨?_, dE_hp hC l (o :: acc) fr' E' r h k⟩
          rw [Bool.or_eq_true] at hc
          exact hc.imp (fun h => List.isEmpty_iff.1 h) rechecksB_ok
        · cases h
      · rename_i v E' he
        cases h
        exact opE_hp hC he k
      · cases h
    simp only [dE, goes] at h
    simp only [evD]
    cases hg : o.g with
    | none => rw [hg] at h; exact main h
    | some tw =>
      obtain ⟨t, want⟩ := tw
      rw [hg] at h
      dsimp only at h ⊢
      cases hv : fr.get t with
      | none => rw [hv] at h; cases h
      | some v =>
        rw [hv] at h
        cases v <;> (try (cases h; done))
        case bool b =>
          dsimp only at h ⊢
          unfold gif
          cases hb : b == want with
          | true => rw [hb] at h; rw [if_pos rfl]; exact main h
          | false => rw [hb] at h; rw [if_neg (by decide)]; exact dE_hp hC l _ _ E r h k
        case tup l' =>
          cases l' with
          | nil => exact dE_hp hC l _ _ E r h k
          | cons a b => cases h
abbrev RE := Cd → Fr → EH → Option (Ex × Fr × EH)
def recBE (R : RE) (F : AFun) (d : Nat) (c : Cd) (x : V) (l : List V) (E : EH) : Option EH :=
  if l.length = F.np then match R c ⟨(d, x) :: frame0 0 l, []⟩ E with
    | some (.normal, fr, E') => if fr.ds.isEmpty && (resOf fr E'.hp F.res).isSome then some E' else none
    | some (.ret, fr, E') => if fr.ds.isEmpty && (resOf fr E'.hp F.res).isSome then some E' else none
    | _ => none
  else none
/-- A deferred call that defers nothing itself. -/
def callN (P : Prog) (R : RE) (g : Nat) (l : List V) (E : EH) : Option EH := match P g with
  | some F => if l.length = F.np && F.nodef then (match R F.body ⟨frame0 0 l, []⟩ E with
    | some (.normal, fr, E') => if fr.ds.isEmpty && (resOf fr E'.hp F.res).isSome then some E' else none
    | some (.ret, fr, E') => if fr.ds.isEmpty && (resOf fr E'.hp F.res).isSome then some E' else none
    | _ => none) else none
  | none => none
def dsE (P : Prog) (R : RE) : List (Nat × List V) → EH → Option EH
  | [], E => some E
  | (g, l) :: r, E => match recOf P g with
    | some (F, d, c) => (recBE R F d c .nilifc l E).bind (dsE P R r)
    | none => (callN P R g l E).bind (dsE P R r)
def panE (P : Prog) (R : RE) (v : V) : List (Nat × List V) → EH → Option (Bool × EH)
  | [], E => some (false, E)
  | (g, l) :: r, E => match recOf P g with
    | some (F, d, c) => ((recBE R F d c v l E).bind (dsE P R r)).map fun E => (true, E)
    | none => none
def toldE (fr : Fr) (F : AFun) (E : EH) : Option (Out × EH) := (resOf fr E.hp F.res).map fun vs => (.ret (bundle vs), E)
def callE (P : Prog) (R : RE) : CE := fun g l E => match P g with
  | none => none
  | some F => if l.length = F.np then match R F.body ⟨frame0 0 l, []⟩ E with
    | some (.normal, fr, E') => if !F.nodef || fr.ds.isEmpty then (dsE P R fr.ds E').bind (toldE fr F) else none
    | some (.ret, fr, E') => if !F.nodef || fr.ds.isEmpty then (dsE P R fr.ds E').bind (toldE fr F) else none
    | some (.pan v, fr, E') => if !F.nodef || fr.ds.isEmpty then (match panE P R v fr.ds E' with
      | some (true, E2) => toldE fr F E2
      | some (false, E2) => some (.pan v, E2)
      | none => none) else none
    | _ => none
  else none
def srtE (x : Option V) (E : EH) : Option EH := match x with
  | some (.sl _ 0 _ _) => some E
  | some (.sl (some (b, o)) 1 _ 1) => (match E.t.get b with
    | .cells l true => (match l[o]? with
      | some (.int .i64 _) => some E
      | _ => none)
    | _ => none)
  | _ => none
def atE (E : EH) (b y st : Nat) : Option (List (Nat × V)) := match E.t.get b with
  | .lp y' tm st' none => if y' = y ∧ st' = st then some tm else none
  | _ => none
theorem atE_hp {E : EH} {b y st : Nat} {tm : List (Nat × V)} {K : List (Nat × V) → Prop} (h : atE E b y st = some tm) (k : K tm) : rndAt E.hp b y st K := by
  unfold atE at h
  unfold rndAt
  split at h
  · rename_i y' tm' st' hg
    split at h
    · rename_i hc
      cases h
      have : E.hp.get b = .lp y' tm st' none := hg
      rw [this]
      exact ⟨hc.1, hc.2, k⟩
    · cases h
  · cases h
/-- How a round is left. -/
def backE : Ex → Option (Nat × Option (Option Nat))
  | .normal => some (0, none)
  | .ret => some (2, some none)
  | .exit id => some (2, some (some id))
  | _ => none
def evC (P : Prog) : Nat → RE
  | 0 => fun _ _ _ => none
  | n + 1 => fun c fr E => match c with
    | .skip => some (.normal, fr, E)
    | .reg false live ops => (match opsE (callE P (evC P n)) ops fr E with
      | some (.inl (fr', E')) => some (.normal, fr'.keep live, E')
      | some (.inr (fr', v, E')) => some (.pan v, fr', E')
      | none => none)
    | .reg true live ops => (match dE (callE P (evC P n)) [] ops fr E with
      | some (.inl (fr', E')) => some (.normal, fr'.keep live, E')
      | some (.inr (fr', v, E')) => some (.pan v, ⟨[], fr'.ds⟩, E')
      | none => none)
    | .seq a b => (match evC P n a fr E with
      | some (.normal, fr', E') => evC P n b fr' E'
      | r => r)
    | .cond c x y => (match opd fr c with
      | some (.bool true) => evC P n x fr E
      | some (.bool false) => evC P n y fr E
      | _ => none)
    | .block id c => (match evC P n c fr E with
      | some (.exit i, fr', E') => if i = id then some (.normal, fr', E') else some (.exit i, fr', E')
      | r => r)
    | .loop live c => (match evC P n c (fr.keep live) E with
      | some (.normal, fr', E') => evC P n (.loop live c) fr' E'
      | r => r)
    | .exit id => some (.exit id, fr, E)
    | .ret => some (.ret, fr, E)
    | .scope c => (match evC P n c fr E with
      | some (.goto _, _) => none
      | r => r)
    | .goto l => some (.goto l, fr, E)
    | .orc => (srtE (fr.get 0) E).map fun E' => (.ret, fr, E')
    | .rangeF f y sh live => (match opd fr f with
      | some (.fn g first caps) => (match E.new .dfb with
        | some E1 => (match E1.new (.lp y (keepL fr.tm live) 0 none) with
          | some E2 => (match callE P (evC P n) g (first ++ [.yld y (E.next + 1)] ++ caps) E2 with
            | some (.ret _, E3) => (match E3.t.get (E.next + 1) with
              | .lp y' tm st pend => if y' = y ∧ st ≠ 1 then (E3.put (E.next + 1) (.lp y tm 3 pend)).map fun E4 => (jmpE pend, fr.mark sh E.next, E4) else none
              | _ => none)
            | some (.pan v, E3) => some (.pan v, fr.mark sh E.next, E3)
            | none => none)
          | none => none)
        | none => none)
      | _ => none)
    | .shut => (match fr.get 0 with
      | some (.ptr (some (b, 0))) => (match E.t.get b with
        | .dfb => (E.put b .dead).map fun E' => (.ret, ⟨[], []⟩, E')
        | _ => none)
      | _ => none)
    | .rnd y ps a b => (match fr.get 0 with
      | some (.yld y' i) => if y' = y then (match atE E i y 0 with
        | some tm => (match evC P n a ⟨layT fr ps 1 tm, []⟩ E with
          | some (.normal, fr1, E1) => (match atE E1 i y 0 with
            | some tm1 => (match E1.put i (.lp y tm1 1 none) with
              | some E2 => (match evC P n b fr1 E2 with
                | some (e, _, E3) => (match atE E3 i y 1, backE e with
                  | some tm2, some (st, pend) => (E3.put i (.lp y tm2 st pend)).map fun E4 => (.ret, ⟨[(0, .bool pend.isNone)], []⟩, E4)
                  | _, _ => none)
                | none => none)
              | none => none)
            | none => none)
          | _ => none)
        | none => none) else none
      | _ => none)
    | _ => none
theorem recBE_hp {R : RE} {D : CallT} (hR : ∀ c fr E e fr' E', R c fr E = some (e, fr', E') → ∀ Q : Post, Q e fr' E'.hp → wpC D c Q fr E.hp) {F : AFun} {d : Nat} {c : Cd} {x : V} {l : List V} {E E' : EH} {K : Heap → Prop} (h : recBE R F d c x l E = some E') (k : K E'.hp) : recB D F d c x l E.hp K := by
  unfold recBE at h
  split at h
  · rename_i hl
    refine ⟨hl, ?_⟩
    split at h
    · rename_i fr E1 he
      split at h
      · rename_i hc
        cases h
        rw [Bool.and_eq_true] at hc
        exact hR _ _ _ _ _ _ he _ ⟨List.isEmpty_iff.1 hc.1, Option.isSome_iff_exists.1 hc.2, k⟩
      · cases h
    · rename_i fr E1 he
      split at h
      · rename_i hc
        cases h
        rw [Bool.and_eq_true] at hc
        exact hR _ _ _ _ _ _ he _ ⟨List.isEmpty_iff.1 hc.1, Option.isSome_iff_exists.1 hc.2, k⟩
      · cases h
    · cases h
  · cases h
theorem callN_hp {P : Prog} {R : RE} (hR : ∀ c fr E e fr' E', R c fr E = some (e, fr', E') → ∀ Q : Post, Q e fr' E'.hp → wpC (Call P) c Q fr E.hp) {K : Heap → Prop} {g : Nat} {l : List V} {E E' : EH} (h : callN P R g l E = some E') (k : K E'.hp) :
    ndOf P g = true ∧ Call P g l E.hp fun out H' => match out with | .ret _ => K H' | .pan _ => False := by
  unfold callN at h
  split at h
  case h_2 => cases h
  rename_i F hF
  split at h
  case isFalse => cases h
  rename_i hc
  simp only [Bool.and_eq_true, decide_eq_true_eq] at hc
  refine ⟨by simp [ndOf, hF, hc.2], call_body hF ⟨hc.1, ?_⟩⟩
  have fin : ∀ (fr : Fr) (E1 : EH), (if fr.ds.isEmpty && (resOf fr E1.hp F.res).isSome then some E1 else none) = some E' → (F.nodef = true → fr.ds = []) ∧ evDs P (Call P) (resK fr F.res fun out H' => match out with | .ret _ => K H' | .pan _ => False) fr.ds E1.hp := fun fr E1 h => by
    split at h
    · rename_i hq
      cases h
      rw [Bool.and_eq_true] at hq
      have hd := List.isEmpty_iff.1 hq.1
      obtain ⟨vs, hv⟩ := Option.isSome_iff_exists.1 hq.2
      refine ⟨fun _ => hd, ?_⟩
      rw [hd]
      simp only [evDs, resK, hv]
      exact k
    · cases h
  split at h
  · rename_i fr E1 he; exact hR _ _ _ _ _ _ he _ (fin fr E1 h)
  · rename_i fr E1 he; exact hR _ _ _ _ _ _ he _ (fin fr E1 h)
  · cases h
theorem dsE_hp {P : Prog} {R : RE} (hR : ∀ c fr E e fr' E', R c fr E = some (e, fr', E') → ∀ Q : Post, Q e fr' E'.hp → wpC (Call P) c Q fr E.hp) {K : Heap → Prop} : ∀ {ds : List (Nat × List V)} {E E' : EH}, dsE P R ds E = some E' → K E'.hp → evDs P (Call P) K ds E.hp
  | [], E, E', h, k => by cases h; exact k
  | (g, l) :: r, E, E', h, k => by
    simp only [dsE] at h
    simp only [evDs]
    split at h
    · rename_i F d c hr
      rw [hr]
      obtain ⟨E1, h1, h2⟩ := Option.bind_eq_some_iff.1 h
      exact recBE_hp hR h1 (dsE_hp hR h2 k)
    · rename_i hr
      rw [hr]
      dsimp only
      obtain ⟨E1, h1, h2⟩ := Option.bind_eq_some_iff.1 h
      exact callN_hp hR h1 (dsE_hp hR h2 k)
theorem toldE_hp {fr : Fr} {F : AFun} {E E' : EH} {o : Out} {Q : Out → Heap → Prop} (h : toldE fr F E = some (o, E')) (k : Q o E'.hp) : resK fr F.res Q E.hp := by
  unfold toldE at h
  obtain ⟨vs, h1, h2⟩ := Option.map_eq_some_iff.1 h
  cases h2
  unfold resK
  rw [h1]
  exact k
theorem callE_hp {P : Prog} {R : RE} (hR : ∀ c fr E e fr' E', R c fr E = some (e, fr', E') → ∀ Q : Post, Q e fr' E'.hp → wpC (Call P) c Q fr E.hp) : CEok (callE P R) (Call P) := by
  intro g l E o E' h Q k
  unfold callE at h
  split at h
  · cases h
  · rename_i F hF
    obtain ⟨np, nt, nodef, res, cd⟩ := F
    dsimp only at h
    split at h
    · rename_i hl
      have nd : ∀ fr : Fr, (!nodef || fr.ds.isEmpty) = true → nodef = true → fr.ds = [] := fun fr hc hn => by
        rw [hn] at hc
        exact List.isEmpty_iff.1 (by simpa using hc)
      refine call_body hF ⟨hl, ?_⟩
      split at h
      · rename_i fr E1 he
        split at h
        · rename_i hc
          obtain ⟨E2, h1, h2⟩ := Option.bind_eq_some_iff.1 h
          exact hR _ _ _ _ _ _ he _ ⟨nd fr hc, dsE_hp (K := resK fr res Q) hR h1 (toldE_hp h2 k)⟩
        · cases h
      · rename_i fr E1 he
        split at h
        · rename_i hc
          obtain ⟨E2, h1, h2⟩ := Option.bind_eq_some_iff.1 h
          exact hR _ _ _ _ _ _ he _ ⟨nd fr hc, dsE_hp (K := resK fr res Q) hR h1 (toldE_hp h2 k)⟩
        · cases h
      · rename_i v fr E1 he
        split at h
        · rename_i hc
          refine hR _ _ _ _ _ _ he _ ⟨nd fr hc, ?_⟩
          cases hds : fr.ds with
          | nil =>
            rw [hds] at h
            simp only [panE] at h
            cases h
            exact k
          | cons gl r =>
            obtain ⟨g', l'⟩ := gl
            rw [hds] at h
            simp only [panE] at h
            simp only [evP]
            split at h
            · rename_i E2 hb
              split at hb
              · rename_i F' d c hr
                rw [hr]
                obtain ⟨E3, h1, h2⟩ := Option.map_eq_some_iff.1 hb
                cases h2
                obtain ⟨E4, h3, h4⟩ := Option.bind_eq_some_iff.1 h1
                exact recBE_hp hR h3 (dsE_hp (K := resK fr res Q) hR h4 (toldE_hp h k))
              · cases hb
            · rename_i E2 hb
              split at hb
              · obtain ⟨E3, h1, h2⟩ := Option.map_eq_some_iff.1 hb
                cases h2
              · cases hb
            · cases h
        · cases h
      · cases h
    · cases h
theorem srtE_hp {x : Option V} {E E' : EH} {K : Heap → Prop} (h : srtE x E = some E') (k : K E'.hp) : srt x E.hp K := by
  unfold srtE at h
  split at h
  · cases h; exact ⟨_, _, _, _, rfl, .inl ⟨rfl, k⟩⟩
  · rename_i b o cap
    split at h
    · rename_i l hl
      split at h
      · rename_i n hn
        cases h
        have hol := (List.getElem?_eq_some_iff.1 hn).1
        refine ⟨_, _, _, _, rfl, .inr ⟨b, o, l, [n], by omega, rfl, rfl, hl, rfl, by simp, by omega, fun i m hm => ?_, ?_⟩⟩
        · cases i with
          | zero => simp at hm; subst hm; exact hn
          | succ i => simp at hm
        · have e : over l o (([n] : List Int).mergeSort (fun x y => decide (x ≤ y)) |>.map (V.int .i64)) = l := by
            rw [List.mergeSort_singleton]
            show over l o [V.int .i64 n] = l
            unfold over
            refine List.ext_getElem? fun i => ?_
            rw [List.append_assoc]
            by_cases h1 : i < o
            · rw [List.getElem?_append_left (by simp; omega), List.getElem?_take, if_pos h1]
            · rw [List.getElem?_append_right (by simp; omega)]
              simp only [List.length_take, List.singleton_append, List.length_cons, List.length_nil]
              rw [Nat.min_eq_left (by omega)]
              rcases Nat.lt_or_ge o i with h2 | h2
              · obtain ⟨j, rfl⟩ := Nat.exists_eq_add_of_lt h2
                rw [show o + j + 1 - o = j + 1 by omega, List.getElem?_cons_succ, List.getElem?_drop]
                congr 1; omega
              · obtain rfl : i = o := by omega
                rw [Nat.sub_self, List.getElem?_cons_zero, hn]
          rw [e]
          have : E.hp.put b (.cells l true) = E.hp := by
            unfold Heap.put
            have hg : E.hp.get = fun x => if x = b then Obj.cells l true else E.hp.get x := by
              funext x
              by_cases hx : x = b
              · rw [if_pos hx, hx]; exact hl
              · rw [if_neg hx]
            rw [← hg]
          rw [this]
          exact k
      · cases h
    · cases h
  · cases h
/-- **What the evaluator says holds.** -/
theorem evC_hp {P : Prog} : ∀ (n : Nat) (c : Cd) (fr : Fr) (E : EH) (e : Ex) (fr' : Fr) (E' : EH), evC P n c fr E = some (e, fr', E') → ∀ Q : Post, Q e fr' E'.hp → wpC (Call P) c Q fr E.hp
  | 0, _, _, _, _, _, _, h, _, _ => by cases h
  | n + 1, c, fr, E, e, fr', E', h, Q, k => by
    have ih := evC_hp (P := P) n
    have ihC := callE_hp (P := P) (R := evC P n) ih
    cases c with
    | skip => simp only [evC] at h; cases h; exact k
    | reg b live ops =>
      cases b with
      | false =>
        simp only [evC] at h
        simp only [wpC]
        split at h
        · rename_i fr1 E1 he; cases h; exact opsE_hp ihC _ _ _ _ he k
        · rename_i fr1 v E1 he; cases h; exact opsE_hp ihC _ _ _ _ he k
        · cases h
      | true =>
        simp only [evC] at h
        simp only [wpC]
        split at h
        · rename_i fr1 E1 he; cases h; exact dE_hp ihC _ _ _ _ _ he k
        · rename_i fr1 v E1 he; cases h; exact dE_hp ihC _ _ _ _ _ he k
        · cases h
    | seq a b =>
      simp only [evC] at h
      simp only [wpC]
      split at h
      · rename_i fr1 E1 he
        exact ih _ _ _ _ _ _ he _ (ih _ _ _ _ _ _ h _ k)
      · rename_i hne
        refine ih _ _ _ _ _ _ h _ ?_
        cases e with
        | normal => exact absurd h (hne _ _)
        | exit i => exact k
        | ret => exact k
        | pan v => exact k
        | goto l => exact k
    | cond q x y =>
      simp only [evC] at h
      simp only [wpC]
      split at h
      · rename_i hq; rw [hq]; dsimp only; unfold gif; rw [if_pos rfl]; exact ih _ _ _ _ _ _ h _ k
      · rename_i hq; rw [hq]; dsimp only; unfold gif; rw [if_neg (by decide)]; exact ih _ _ _ _ _ _ h _ k
      · cases h
    | block id c =>
      simp only [evC] at h
      simp only [wpC]
      split at h
      · rename_i i fr1 E1 he
        split at h
        · rename_i hi
          cases h
          refine ih _ _ _ _ _ _ he _ ?_
          dsimp only
          rw [if_pos hi]; exact k
        · rename_i hi
          cases h
          refine ih _ _ _ _ _ _ he _ ?_
          dsimp only
          rw [if_neg hi]; exact k
      · rename_i hne
        refine ih _ _ _ _ _ _ h _ ?_
        cases e with
        | normal => exact k
        | exit i => exact absurd h (hne _ _ _)
        | ret => exact k
        | pan v => exact k
        | goto l => exact k
    | loop live c =>
      simp only [evC] at h
      simp only [wpC]
      intro I hI
      refine hI _ _ ?_
      split at h
      · rename_i fr1 E1 he
        have h2 := ih _ _ _ _ _ _ h Q k
        simp only [wpC] at h2
        exact ih _ _ _ _ _ _ he _ (h2 I hI)
      · rename_i hne
        refine ih _ _ _ _ _ _ h _ ?_
        cases e with
        | normal => exact absurd h (hne _ _)
        | exit i => exact k
        | ret => exact k
        | pan v => exact k
        | goto l => exact k
    | exit id => simp only [evC] at h; cases h; exact k
    | ret => simp only [evC] at h; cases h; exact k
    | scope c =>
      simp only [evC] at h
      simp only [wpC]
      split at h
      · cases h
      · rename_i hne
        refine ih _ _ _ _ _ _ h _ ?_
        cases e with
        | normal => exact k
        | exit i => exact k
        | ret => exact k
        | pan v => exact k
        | goto l => exact absurd h (hne _ _)
    | gscope a l live b => simp only [evC] at h; cases h
    | goto l => simp only [evC] at h; cases h; exact k
    | recov d c => simp only [evC] at h; cases h
    | shut =>
      simp only [evC] at h
      simp only [wpC]
      split at h
      · rename_i b hb
        rw [hb]
        split at h
        · rename_i hg
          obtain ⟨E1, h1, h2⟩ := Option.map_eq_some_iff.1 h
          cases h2
          have hg : E.hp.get b = .dfb := hg
          simp only [shutAt, hg]
          rw [← EH.put_hp h1]
          exact k
        · cases h
      · cases h
    | rangeF f y sh live =>
      simp only [evC] at h
      simp only [wpC]
      split at h
      · rename_i g first caps hf
        rw [hf]
        simp only [rngFn]
        split at h
        · rename_i E1 h1
          split at h
          · rename_i E2 h2
            have e2 : E2.hp = (E.hp.new .dfb).new (.lp y (keepL fr.tm live) 0 none) := by rw [EH.new_hp h2, EH.new_hp h1]
            rw [← e2]
            split at h
            · rename_i v E3 h3
              refine ihC _ _ _ _ _ h3 _ ?_
              dsimp only
              unfold rngOut
              split at h
              · rename_i y' tm st pend hg
                split at h
                · rename_i hc
                  obtain ⟨E4, h4, h5⟩ := Option.map_eq_some_iff.1 h
                  cases h5
                  have hg : E3.hp.get (E.hp.next + 1) = .lp y' tm st pend := hg
                  rw [hg]
                  rw [EH.put_hp h4] at k
                  exact ⟨hc.1, hc.2, k⟩
                · cases h
              · cases h
            · rename_i v E3 h3
              cases h
              exact ihC _ _ _ _ _ h3 _ k
            · cases h
          · cases h
        · cases h
      · cases h
    | rnd y ps a b =>
      simp only [evC] at h
      simp only [wpC]
      split at h
      · rename_i y' i hx
        split at h
        · rename_i hy
          rw [hx]
          refine ⟨hy, ?_⟩
          split at h
          · rename_i tm h1
            refine atE_hp h1 ?_
            split at h
            · rename_i fr1 E1 h2
              refine ih _ _ _ _ _ _ h2 _ ?_
              split at h
              · rename_i tm1 h3
                refine atE_hp h3 ?_
                split at h
                · rename_i E2 h4
                  rw [← EH.put_hp h4]
                  split at h
                  · rename_i e1 fr2 E3 h5
                    refine ih _ _ _ _ _ _ h5 _ ?_
                    split at h
                    · rename_i tm2 st pend h6 h7
                      refine atE_hp h6 ?_
                      obtain ⟨E4, h8, h9⟩ := Option.map_eq_some_iff.1 h
                      cases h9
                      rw [EH.put_hp h8] at k
                      cases e1 <;> cases h7 <;> exact k
                    · cases h
                  · cases h
                · cases h
              · cases h
            · cases h
          · cases h
        · cases h
      · cases h
    | orc =>
      simp only [evC] at h
      simp only [wpC]
      obtain ⟨E1, k1, k2⟩ := Option.map_eq_some_iff.1 h
      cases k2
      exact srtE_hp k1 k
/-- A call without arguments, from the empty heap. -/
def E0 : EH := ⟨0, .leaf⟩
def runB (P : Prog) (n g : Nat) : Option V := match callE P (evC P n) g [] E0 with
  | some (.ret v, _) => some v
  | _ => none
theorem run_call {P : Prog} {n g : Nat} {v : V} (h : runB P n g = some v) : Call P g [] E0.hp fun o _ => o = .ret v := by
  unfold runB at h
  split at h
  · rename_i v' E' he
    cases h
    exact callE_hp (fun c fr E e fr' E' => evC_hp n c fr E e fr' E') g [] E0 _ _ he _ rfl
  · cases h
end Go.Ab
namespace Go.Ab
-- burinlaw17_wakes: 201, parameters ; loops 
/-- burin/burinlaw17.wakes -/
def burinlaw17_wakes : AFun := ⟨0, 59, true, [.t 0],
  .seq (.reg false [] [⟨some 0, .mv (.c (.bool false)), none, 0, []⟩])
  (.seq (.reg false [1, 2] [⟨some 10, .build [.int .i64 0, .int .i64 0, .int .i64 0, .sl none 0 0 0, .sl none 0 0 0, .bool false, .sl none 0 0 0] [(1, 1, (.c (.int .i64 7)))], none, 0, []⟩,
    ⟨some 11, .bslice 7 [.int .i64 0, .int .i64 0, .int .i64 0, .sl none 0 0 0, .sl none 0 0 0, .bool false, .sl none 0 0 0] 1 [(0, (.t 10))], none, 0, []⟩,
    ⟨some 12, .call (.f 200) [(.t 11), (.c (.bool false))], none, 0, []⟩,
    ⟨some 9, .mv (.t 12), none, 0, []⟩,
    ⟨some 13, .ext 0 (.t 9), none, 0, []⟩,
    ⟨some 14, .ext 1 (.t 9), none, 0, []⟩,
    ⟨some 1, .mv (.t 13), none, 0, []⟩,
    ⟨some 2, .mv (.t 14), none, 0, []⟩])
  (.seq (.reg false [1, 2, 3, 4, 5] [⟨some 16, .bslice 1 [.int .u8 0] 12 [(0, (.c (.int .u8 66))), (1, (.c (.int .u8 85))), (2, (.c (.int .u8 82))), (3, (.c (.int .u8 1))), (4, (.c (.int .u8 1))), (5, (.c (.int .u8 0))), (6, (.c (.int .u8 0))), (7, (.c (.int .u8 7))), (8, (.c (.int .u8 0))), (9, (.c (.int .u8 0))), (10, (.c (.int .u8 0))), (11, (.c (.int .u8 0)))], none, 0, []⟩,
    ⟨some 17, .call (.f 199) [(.t 16)], none, 0, []⟩,
    ⟨some 15, .mv (.t 17), none, 0, []⟩,
    ⟨some 18, .ext 0 (.t 15), none, 0, []⟩,
    ⟨some 19, .ext 1 (.t 15), none, 0, []⟩,
    ⟨some 20, .ext 2 (.t 15), none, 0, []⟩,
    ⟨some 3, .mv (.t 18), none, 0, []⟩,
    ⟨some 4, .mv (.t 19), none, 0, []⟩,
    ⟨some 5, .mv (.t 20), none, 0, []⟩])
  (.seq (.reg false [1, 2, 3, 4, 5, 8] [⟨some 22, .bslice 1 [.int .u8 0] 1 [(0, (.c (.int .u8 66)))], none, 0, []⟩,
    ⟨some 23, .call (.f 199) [(.t 22)], none, 0, []⟩,
    ⟨some 21, .mv (.t 23), none, 0, []⟩,
    ⟨some 24, .ext 0 (.t 21), none, 0, []⟩,
    ⟨some 25, .ext 1 (.t 21), none, 0, []⟩,
    ⟨some 26, .ext 2 (.t 21), none, 0, []⟩,
    ⟨some 6, .mv (.t 24), none, 0, []⟩,
    ⟨some 7, .mv (.t 25), none, 0, []⟩,
    ⟨some 8, .mv (.t 26), none, 0, []⟩])
  (.seq (.reg false [0] [⟨some 27, .mv (.t 2), none, 0, []⟩,
    ⟨some 28, .bin .eql .num (.t 27) (.c (.int .i64 0)), none, 0, []⟩,
    ⟨some 29, .mv (.t 28), none, 0, []⟩,
    ⟨some 30, .mv (.t 1), some (29, true), 0, []⟩,
    ⟨some 31, .bslice 1 [.int .u8 0] 12 [(0, (.c (.int .u8 66))), (1, (.c (.int .u8 85))), (2, (.c (.int .u8 82))), (3, (.c (.int .u8 1))), (4, (.c (.int .u8 0))), (5, (.c (.int .u8 0))), (6, (.c (.int .u8 0))), (7, (.c (.int .u8 7))), (8, (.c (.int .u8 0))), (9, (.c (.int .u8 0))), (10, (.c (.int .u8 0))), (11, (.c (.int .u8 0)))], some (29, true), 0, []⟩,
    ⟨some 32, .call (.f 26) [(.t 30), (.t 31)], some (29, true), 0, []⟩,
    ⟨some 33, .pick (.t 29) (.t 32) (.c (.bool false)), none, 0, []⟩,
    ⟨some 34, .mv (.t 33), none, 0, []⟩,
    ⟨some 35, .mv (.t 5), some (34, true), 0, []⟩,
    ⟨some 36, .bin .eql .num (.t 35) (.c (.int .i64 0)), some (34, true), 0, []⟩,
    ⟨some 37, .pick (.t 34) (.t 36) (.c (.bool false)), none, 0, []⟩,
    ⟨some 38, .mv (.t 37), none, 0, []⟩,
    ⟨some 39, .mv (.t 3), some (38, true), 0, []⟩,
    ⟨some 40, .len none (.t 39), some (38, true), 0, []⟩,
    ⟨some 41, .bin .eql .num (.t 40) (.c (.int .i64 0)), some (38, true), 0, []⟩,
    ⟨some 42, .pick (.t 38) (.t 41) (.c (.bool false)), none, 0, []⟩,
    ⟨some 43, .mv (.t 42), none, 0, []⟩,
    ⟨some 44, .mv (.t 4), some (43, true), 0, []⟩,
    ⟨some 45, .len none (.t 44), some (43, true), 0, []⟩,
    ⟨some 46, .bin .eql .num (.t 45) (.c (.int .i64 1)), some (43, true), 0, []⟩,
    ⟨some 47, .pick (.t 43) (.t 46) (.c (.bool false)), none, 0, []⟩,
    ⟨some 48, .mv (.t 47), none, 0, []⟩,
    ⟨some 49, .mv (.t 4), some (48, true), 0, []⟩,
    ⟨some 50, .iad none 2 (.t 49) (.c (.int .i64 0)), some (48, true), 0, []⟩,
    ⟨some 51, .fad 0 (.t 50), some (48, true), 0, []⟩,
    ⟨some 52, .load none (.t 51), some (48, true), 0, []⟩,
    ⟨some 53, .bin .eql .num (.t 52) (.c (.int .i64 0)), some (48, true), 0, []⟩,
    ⟨some 54, .pick (.t 48) (.t 53) (.c (.bool false)), none, 0, []⟩,
    ⟨some 55, .mv (.t 54), none, 0, []⟩,
    ⟨some 56, .mv (.t 8), some (55, true), 0, []⟩,
    ⟨some 57, .bin .eql .num (.t 56) (.c (.int .i64 160)), some (55, true), 0, []⟩,
    ⟨some 58, .pick (.t 55) (.t 57) (.c (.bool false)), none, 0, []⟩,
    ⟨some 0, .mv (.t 58), none, 0, []⟩])
  (.ret)))))⟩

end Go.Ab
