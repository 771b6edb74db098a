/- The machine's equations as rewriting rules that stop where a test, a call or a loop is met: what stands behind is locked. Conditions: none. -/
import Derived.Test.YtdkgdneiilnppaaAc
set_option linter.all false
namespace Go.Ab
universe u

def Tag {α : Sort u} (_ : α) : Type := Unit
def tag {α : Sort u} (a : α) : Tag a := ()
def lock (A : Prop) (_ : Tag A) : Prop := A
def bindO (x : Option (V × Heap)) (K : V → Heap → Prop) (_ : Tag K) : Prop := match x with
  | some (v, H) => K v H
  | none => False
def bindV (x : Option V) (K : V → Prop) (_ : Tag K) : Prop := match x with
  | some v => K v
  | none => False
def bindL (x : Option (List V)) (K : List V → Prop) (_ : Tag K) : Prop := match x with
  | some v => K v
  | none => False
def bindG (x : Option (Nat × List V)) (K : Nat → List V → Prop) (_ : Tag K) : Prop := match x with
  | some (g, l) => K g l
  | none => False
def testV (x : Option V) (A B : Prop) (_ : Tag A) (_ : Tag B) : Prop := match x with
  | some (.bool b) => gif b A B
  | _ => False
/-- A test whose branches are locked. -/
def lif (b : Bool) (A B : Prop) (_ : Tag A) (_ : Tag B) : Prop := gif b A B
/-- First the frame, then what is behind. -/
def seqF (fr : Fr) (K : Fr → Prop) (_ : Tag K) : Prop := K fr
@[go_sem] theorem seqF_mk (tm : List (Nat × V)) (ds : List (Nat × List V)) (K : Fr → Prop) (t : Tag K) : seqF ⟨tm, ds⟩ K t = K ⟨tm, ds⟩ := rfl
def CallL (C : CallT) (g : Nat) (l : List V) (H : Heap) (Q : Out → Heap → Prop) (_ : Tag Q) : Prop := C g l H Q
def loopL (C : CallT) (live : List Nat) (c : Cd) (Q : Post) (_ : Tag Q) (_ : Tag c) (fr : Fr) (H : Heap) : Prop := wpC C (.loop live c) Q fr H

@[go_sem ↓] theorem bindO_some (v : V) (H : Heap) (K : V → Heap → Prop) (t : Tag K) : bindO (some (v, H)) K t = K v H := rfl
@[go_sem ↓] theorem bindV_some (v : V) (K : V → Prop) (t : Tag K) : bindV (some v) K t = K v := rfl
@[go_sem ↓] theorem bindL_some (v : List V) (K : List V → Prop) (t : Tag K) : bindL (some v) K t = K v := rfl
@[go_sem ↓] theorem bindG_some (g : Nat) (l : List V) (K : Nat → List V → Prop) (t : Tag K) : bindG (some (g, l)) K t = K g l := rfl
@[go_sem ↓] theorem testV_some (b : Bool) (A B : Prop) (s : Tag A) (t : Tag B) : testV (some (.bool b)) A B s t = lif b A B s t := rfl
@[go_sem ↓] theorem lif_true (A B : Prop) (s : Tag A) (t : Tag B) : lif true A B s t = A := by simp [lif, gif]
@[go_sem ↓] theorem lif_false (A B : Prop) (s : Tag A) (t : Tag B) : lif false A B s t = B := by simp [lif, gif]
theorem lif_of {b : Bool} {A B : Prop} {s : Tag A} {t : Tag B} (hA : b = true → A) (hB : b = false → B) : lif b A B s t := gif_of hA hB
theorem lif_dec {p : Prop} [Decidable p] {A B : Prop} {s : Tag A} {t : Tag B} (hA : p → A) (hB : ¬ p → B) : lif (decide p) A B s t :=
  gif_of (fun h => hA (of_decide_eq_true h)) (fun h => hB (of_decide_eq_false h))
theorem callL_of {P : Prog} {g : Nat} {l : List V} {H : Heap} {Q R : Out → Heap → Prop} {t : Tag Q} (h : Call P g l H R) (hQ : ∀ o H', R o H' → Q o H') : CallL (Call P) g l H Q t :=
  Call_mono h hQ

@[go_sem ↓] theorem w_skip (C : CallT) (Q : Post) (fr : Fr) (H : Heap) : wpC C .skip Q fr H = Q .normal fr H := rfl
def regX (Q : Post) : Fr → V → Heap → Prop := fun fr v H => Q (.pan v) ⟨[], fr.ds⟩ H
def regK (live : List Nat) (Q : Post) : Fr → Heap → Prop := fun fr H => Q .normal (fr.keep live) H
@[go_sem ↓] theorem regX_mk (Q : Post) (tm : List (Nat × V)) (ds : List (Nat × List V)) (v : V) (H : Heap) : regX Q ⟨tm, ds⟩ v H = Q (.pan v) ⟨[], ds⟩ H := rfl
@[go_sem ↓] theorem regK_eq (live : List Nat) (Q : Post) (fr : Fr) (H : Heap) : regK live Q fr H = seqF (fr.keep live) (fun fr => Q .normal fr H) (tag _) := rfl
@[go_sem ↓] theorem w_reg (C : CallT) (live : List Nat) (ops : List AOper) (Q : Post) (fr : Fr) (H : Heap) :
    wpC C (.reg false live ops) Q fr H = evOps C (regX Q) (regK live Q) ops fr H := rfl
@[go_sem ↓] theorem w_regd (C : CallT) (live : List Nat) (ops : List AOper) (Q : Post) (fr : Fr) (H : Heap) :
    wpC C (.reg true live ops) Q fr H = evD C (regX Q) (regK live Q) [] ops fr H := rfl
def nxt (C : CallT) (b : Cd) (Q : Post) : Post := fun e fr' H' => match e with | .normal => wpC C b Q fr' H' | e => Q e fr' H'
def blk (id : Nat) (Q : Post) : Post := fun e fr' H' => match e with | .exit i => if i = id then Q .normal fr' H' else Q (.exit i) fr' H' | e => Q e fr' H'
@[go_sem ↓] theorem w_seq (C : CallT) (a b : Cd) (Q : Post) (fr : Fr) (H : Heap) : wpC C (.seq a b) Q fr H = wpC C a (nxt C b Q) fr H := rfl
@[go_sem ↓] theorem nxt_n (C : CallT) (b : Cd) (Q : Post) (fr : Fr) (H : Heap) : nxt C b Q .normal fr H = wpC C b Q fr H := rfl
@[go_sem ↓] theorem nxt_r (C : CallT) (b : Cd) (Q : Post) (fr : Fr) (H : Heap) : nxt C b Q .ret fr H = Q .ret fr H := rfl
@[go_sem ↓] theorem nxt_e (C : CallT) (b : Cd) (Q : Post) (i : Nat) (fr : Fr) (H : Heap) : nxt C b Q (.exit i) fr H = Q (.exit i) fr H := rfl
@[go_sem ↓] theorem nxt_p (C : CallT) (b : Cd) (Q : Post) (v : V) (fr : Fr) (H : Heap) : nxt C b Q (.pan v) fr H = Q (.pan v) fr H := rfl
@[go_sem ↓] theorem blk_n (i : Nat) (Q : Post) (fr : Fr) (H : Heap) : blk i Q .normal fr H = Q .normal fr H := rfl
@[go_sem ↓] theorem blk_r (i : Nat) (Q : Post) (fr : Fr) (H : Heap) : blk i Q .ret fr H = Q .ret fr H := rfl
@[go_sem ↓] theorem blk_p (i : Nat) (Q : Post) (v : V) (fr : Fr) (H : Heap) : blk i Q (.pan v) fr H = Q (.pan v) fr H := rfl
@[go_sem ↓] theorem blk_e (i j : Nat) (Q : Post) (fr : Fr) (H : Heap) : blk i Q (.exit j) fr H = if j = i then Q .normal fr H else Q (.exit j) fr H := rfl
@[go_sem ↓] theorem w_cond (C : CallT) (c : Opd) (x y : Cd) (Q : Post) (fr : Fr) (H : Heap) :
    wpC C (.cond c x y) Q fr H = testV (opd fr c) (wpC C x Q fr H) (wpC C y Q fr H) (tag _) (tag _) := rfl
@[go_sem ↓] theorem w_block (C : CallT) (id : Nat) (c : Cd) (Q : Post) (fr : Fr) (H : Heap) : wpC C (.block id c) Q fr H = wpC C c (blk id Q) fr H := rfl
@[go_sem ↓] theorem w_exit (C : CallT) (id : Nat) (Q : Post) (fr : Fr) (H : Heap) : wpC C (.exit id) Q fr H = Q (.exit id) fr H := rfl
@[go_sem ↓] theorem w_ret (C : CallT) (Q : Post) (fr : Fr) (H : Heap) : wpC C .ret Q fr H = Q .ret fr H := rfl
/-- Only what goes on normally. -/
def nrm (R : Fr → Heap → Prop) : Post := fun e fr H => match e with | .normal => R fr H | _ => False
theorem lif_join {P : Prog} {b : Bool} {x y rest : Cd} {Q : Post} {fr : Fr} {H : Heap} {s : Tag (wpC (Call P) x (nxt (Call P) rest Q) fr H)} {t : Tag (wpC (Call P) y (nxt (Call P) rest Q) fr H)} (R : Fr → Heap → Prop)
    (h : lif b (wpC (Call P) x (nrm R) fr H) (wpC (Call P) y (nrm R) fr H) (tag _) (tag _)) (k : ∀ fr' H', R fr' H' → wpC (Call P) rest Q fr' H') :
    lif b (wpC (Call P) x (nxt (Call P) rest Q) fr H) (wpC (Call P) y (nxt (Call P) rest Q) fr H) s t := by
  have m : ∀ e fr H, nrm R e fr H → nxt (Call P) rest Q e fr H := fun e fr H hr => by
    cases e with
    | normal => exact k _ _ hr
    | exit i => exact absurd hr id
    | ret => exact absurd hr id
    | pan v => exact absurd hr id
  exact gif_mono (fun h => wp_mono h m) (fun h => wp_mono h m) h
/-- Code up to a place, and what is known there. -/
theorem wp_cut {P : Prog} {a b : Cd} {Q : Post} {fr : Fr} {H : Heap} (R : Fr → Heap → Prop) (h : wpC (Call P) a (nrm R) fr H) (k : ∀ fr' H', R fr' H' → wpC (Call P) b Q fr' H') : wpC (Call P) (.seq a b) Q fr H := by
  have m : ∀ e fr H, nrm R e fr H → nxt (Call P) b Q e fr H := fun e fr H hr => by
    cases e with
    | normal => exact k _ _ hr
    | exit i => exact absurd hr id
    | ret => exact absurd hr id
    | pan v => exact absurd hr id
  exact wp_mono (Q := nrm R) (Q' := nxt (Call P) b Q) h m
/-- What goes on normally is held, what leaves goes on. -/
def thn (R : Fr → Heap → Prop) (Q : Post) : Post := fun e fr H => match e with | .normal => R fr H | e => Q e fr H
@[go_sem ↓] theorem thn_r (R : Fr → Heap → Prop) (Q : Post) (fr : Fr) (H : Heap) : thn R Q .ret fr H = Q .ret fr H := rfl
@[go_sem ↓] theorem thn_e (R : Fr → Heap → Prop) (Q : Post) (i : Nat) (fr : Fr) (H : Heap) : thn R Q (.exit i) fr H = Q (.exit i) fr H := rfl
@[go_sem ↓] theorem thn_p (R : Fr → Heap → Prop) (Q : Post) (v : V) (fr : Fr) (H : Heap) : thn R Q (.pan v) fr H = Q (.pan v) fr H := rfl
theorem wp_cutQ {P : Prog} {a b : Cd} {Q : Post} {fr : Fr} {H : Heap} (R : Fr → Heap → Prop) (h : wpC (Call P) a (thn R Q) fr H) (k : ∀ fr' H', R fr' H' → wpC (Call P) b Q fr' H') : wpC (Call P) (.seq a b) Q fr H := by
  have m : ∀ e fr H, thn R Q e fr H → nxt (Call P) b Q e fr H := fun e fr H hr => by
    cases e with
    | normal => exact k _ _ hr
    | exit i => exact hr
    | ret => exact hr
    | pan v => exact hr
  exact wp_mono (Q := thn R Q) (Q' := nxt (Call P) b Q) h m
@[go_sem ↓] theorem w_loop (C : CallT) (live : List Nat) (c : Cd) (Q : Post) (fr : Fr) (H : Heap) : wpC C (.loop live c) Q fr H = loopL C live c Q (tag _) (tag _) fr H := rfl
/-- Behind a round: on to the next, or out. -/
def rnd (I : Nat → Fr → Heap → Prop) (n : Nat) (Q : Post) : Post := fun e fr' H' => match e with | .normal => ∃ m, m < n ∧ I m fr' H' | e => Q e fr' H'
theorem rnd_n {I : Nat → Fr → Heap → Prop} {n : Nat} {Q : Post} {fr : Fr} {H : Heap} (m : Nat) (hm : m < n) (h : I m fr H) : rnd I n Q .normal fr H := ⟨m, hm, h⟩
@[go_sem ↓] theorem rnd_r (I : Nat → Fr → Heap → Prop) (n : Nat) (Q : Post) (fr : Fr) (H : Heap) : rnd I n Q .ret fr H = Q .ret fr H := rfl
@[go_sem ↓] theorem rnd_e (I : Nat → Fr → Heap → Prop) (n : Nat) (Q : Post) (i : Nat) (fr : Fr) (H : Heap) : rnd I n Q (.exit i) fr H = Q (.exit i) fr H := rfl
@[go_sem ↓] theorem rnd_p (I : Nat → Fr → Heap → Prop) (n : Nat) (Q : Post) (v : V) (fr : Fr) (H : Heap) : rnd I n Q (.pan v) fr H = Q (.pan v) fr H := rfl
theorem loop_inv {P : Prog} {c : Cd} {live : List Nat} {Q : Post} {t : Tag Q} {s : Tag c} (I : Nat → Fr → Heap → Prop)
    (round : ∀ n fr H, I n fr H → wpC (Call P) c (rnd I n Q) (fr.keep live) H) :
    ∀ n fr H, I n fr H → loopL (Call P) live c Q t s fr H := wp_loop_inv I round

/-- What is asked behind a body. -/
def fin (P : Prog) (nodef : Bool) (res : List ARes) (Q : Out → Heap → Prop) : Post := fun e fr H' => match e with
    | .normal => (nodef = true → fr.ds = []) ∧ evDs (ndOf P) (Call P) (fun H'' => match resOf fr H'' res with | some vs => Q (.ret (bundle vs)) H'' | none => False) fr.ds H'
    | .ret => (nodef = true → fr.ds = []) ∧ evDs (ndOf P) (Call P) (fun H'' => match resOf fr H'' res with | some vs => Q (.ret (bundle vs)) H'' | none => False) fr.ds H'
    | .pan v => fr.ds = [] ∧ Q (.pan v) H'
    | .exit _ => False
def told (fr : Fr) (res : List ARes) (Q : Out → Heap → Prop) (H : Heap) : Prop := bindL (resOf fr H res) (fun vs => Q (.ret (bundle vs)) H) (tag _)
theorem call_of {P : Prog} {g np nt : Nat} {nodef : Bool} {res : List ARes} {c : Cd} {l : List V} {H : Heap} {Q : Out → Heap → Prop} (hg : P g = some ⟨np, nt, nodef, res, c⟩) (hl : l.length = np)
    (h : wpC (Call P) c (fin P nodef res Q) ⟨frame0 0 l, []⟩ H) : Call P g l H Q := call_body hg ⟨hl, h⟩
@[go_sem ↓] theorem fin_n (P : Prog) (nd : Bool) (res : List ARes) (Q : Out → Heap → Prop) (tm : List (Nat × V)) (H : Heap) : fin P nd res Q .normal ⟨tm, []⟩ H = told ⟨tm, []⟩ res Q H := by
  simp only [fin, evDs, told, bindL, implies_true, true_and]; try (cases resOf ⟨tm, []⟩ H res <;> rfl)
@[go_sem ↓] theorem fin_r (P : Prog) (nd : Bool) (res : List ARes) (Q : Out → Heap → Prop) (tm : List (Nat × V)) (H : Heap) : fin P nd res Q .ret ⟨tm, []⟩ H = told ⟨tm, []⟩ res Q H := by
  simp only [fin, evDs, told, bindL, implies_true, true_and]; try (cases resOf ⟨tm, []⟩ H res <;> rfl)
@[go_sem ↓] theorem told_eq (fr : Fr) (res : List ARes) (Q : Out → Heap → Prop) (H : Heap) : told fr res Q H = bindL (resOf fr H res) (fun vs => Q (.ret (bundle vs)) H) (tag _) := rfl
@[go_sem ↓] theorem fin_p (P : Prog) (nd : Bool) (res : List ARes) (Q : Out → Heap → Prop) (tm : List (Nat × V)) (v : V) (H : Heap) : fin P nd res Q (.pan v) ⟨tm, []⟩ H = Q (.pan v) H := by simp [fin]

/-- An operation that is no call. -/
def AOp.plain : AOp → Bool
  | .call _ _ => false
  | .dfr _ _ => false
  | .pan _ => false
  | _ => true
theorem evOp_plain (C : CallT) (fr : Fr) (H : Heap) (o : AOper) (K : Fr → Heap → Prop) (X : V → Heap → Prop) (h : o.op.plain = true) :
    evOp C fr H o K X = bindO (step fr H o.op) (fun v H' => K (fr.put o.dst v) H') (tag _) := by
  obtain ⟨d, op, g, ix, re⟩ := o
  have e : ∀ x : Option (V × Heap), (match x with | some (v, H') => K (fr.put d v) H' | none => False) = bindO x (fun v H' => K (fr.put d v) H') (tag _) := fun x => by
    cases x with
    | none => rfl
    | some p => rfl
  cases op <;> first | exact e (step fr H _) | exact (show bindO (step fr H (.alloc _)) (fun v H' => K (fr.put d v) H') (tag _) = bindO (step fr H (.alloc _)) (fun v H' => K (fr.put d v) H') (tag _) from rfl) | exact absurd h (by simp [AOp.plain])
@[go_sem ↓] theorem ops_nil (C : CallT) (X : Fr → V → Heap → Prop) (K : Fr → Heap → Prop) (fr : Fr) (H : Heap) : evOps C X K [] fr H = K fr H := rfl
@[go_sem ↓] theorem ops_mv (C : CallT) (X : Fr → V → Heap → Prop) (K : Fr → Heap → Prop) (d : Option Nat) (x : Opd) (ix : Nat) (re : List Nat) (r : List AOper) (fr : Fr) (H : Heap) :
    evOps C X K (⟨d, .mv x, none, ix, re⟩ :: r) fr H = bindV (opd fr x) (fun v => seqF (fr.put d v) (fun fr => evOps C X K r fr H) (tag _)) (tag _) := by
  simp only [evOps, evOp, step, bindV]; cases opd fr x <;> rfl
@[go_sem ↓] theorem ops_call (C : CallT) (X : Fr → V → Heap → Prop) (K : Fr → Heap → Prop) (d : Option Nat) (f : Opd) (args : List Opd) (ix : Nat) (re : List Nat) (r : List AOper) (fr : Fr) (H : Heap) :
    evOps C X K (⟨d, .call f args, none, ix, re⟩ :: r) fr H = bindG (callee fr f args) (fun g l => CallL C g l H (fun out H' => match out with
      | .ret v => seqF (fr.put d v) (fun fr => evOps C X K r fr H') (tag _)
      | .pan v => X fr v H') (tag _)) (tag _) := by
  simp only [evOps, evOp, bindG]; cases callee fr f args <;> rfl
@[go_sem ↓] theorem ops_dfr (C : CallT) (X : Fr → V → Heap → Prop) (K : Fr → Heap → Prop) (d : Option Nat) (f : Opd) (args : List Opd) (ix : Nat) (re : List Nat) (r : List AOper) (fr : Fr) (H : Heap) :
    evOps C X K (⟨d, .dfr f args, none, ix, re⟩ :: r) fr H = bindG (callee fr f args) (fun g l => seqF ⟨(fr.put d .un).tm, (g, l) :: fr.ds⟩ (fun fr => evOps C X K r fr H) (tag _)) (tag _) := by
  simp only [evOps, evOp, bindG]; cases callee fr f args <;> rfl
theorem ops_op (C : CallT) (X : Fr → V → Heap → Prop) (K : Fr → Heap → Prop) (d : Option Nat) (op : AOp) (ix : Nat) (re : List Nat) (r : List AOper) (fr : Fr) (H : Heap) (h : op.plain = true) :
    evOps C X K (⟨d, op, none, ix, re⟩ :: r) fr H = bindO (step fr H op) (fun v H' => seqF (fr.put d v) (fun fr => evOps C X K r fr H') (tag _)) (tag _) := by
  have e := evOp_plain C fr H ⟨d, op, none, ix, re⟩ (evOps C X K r) (X fr) h
  simp only [evOps]
  exact e
/-- A guard. -/
def gdV (c : V) (w : Bool) (A B : Prop) (_ : Tag A) (_ : Tag B) : Prop := match c with
  | .bool b => gif (b == w) A B
  | .tup [] => B
  | _ => False
@[go_sem ↓] theorem gdV_t (b : Bool) (A B : Prop) (s : Tag A) (t : Tag B) : gdV (.bool b) true A B s t = lif b A B s t := by cases b <;> rfl
@[go_sem ↓] theorem gdV_f (b : Bool) (A B : Prop) (s : Tag A) (t : Tag B) : gdV (.bool b) false A B s t = lif b B A t s := by cases b <;> simp [gdV, lif, gif]
@[go_sem ↓] theorem gdV_off (w : Bool) (A B : Prop) (s : Tag A) (t : Tag B) : gdV (.tup []) w A B s t = B := rfl
@[go_sem ↓] theorem ops_g (C : CallT) (X : Fr → V → Heap → Prop) (K : Fr → Heap → Prop) (d : Option Nat) (op : AOp) (t : Nat) (w : Bool) (ix : Nat) (re : List Nat) (r : List AOper) (fr : Fr) (H : Heap) :
    evOps C X K (⟨d, op, some (t, w), ix, re⟩ :: r) fr H = bindV (fr.get t) (fun c => gdV c w (evOps C X K (⟨d, op, none, ix, re⟩ :: r) fr H) (seqF (fr.put d (.tup [])) (fun fr => evOps C X K r fr H) (tag _)) (tag _) (tag _)) (tag _) := by
  have e : ∀ g, evOp C fr H ⟨d, op, g, ix, re⟩ (evOps C X K r) (X fr) = evOp C fr H ⟨d, op, none, ix, re⟩ (evOps C X K r) (X fr) := fun g => by cases op <;> rfl
  simp only [evOps, bindV, gdV]
  rw [e]
  cases fr.get t with
  | none => rfl
  | some v => cases v <;> first | rfl | (rename_i l; cases l <;> rfl)
/-- What stands behind an operation in a region that draws its order. -/
def aft (re : List Nat) (acc : List AOper) (fr : Fr) (H : Heap) (A : Prop) (_ : Tag A) : Prop := (re = [] ∨ rechecks fr H re acc) ∧ A
@[go_sem ↓] theorem aft_nil (acc : List AOper) (fr : Fr) (H : Heap) (A : Prop) (t : Tag A) : aft [] acc fr H A t = A := by simp [aft]
@[go_sem ↓] theorem d_nil (C : CallT) (X : Fr → V → Heap → Prop) (K : Fr → Heap → Prop) (acc : List AOper) (fr : Fr) (H : Heap) : evD C X K acc [] fr H = K fr H := by simp only [evD]
theorem d_op (C : CallT) (X : Fr → V → Heap → Prop) (K : Fr → Heap → Prop) (acc : List AOper) (d : Option Nat) (op : AOp) (ix : Nat) (re : List Nat) (r : List AOper) (fr : Fr) (H : Heap) (h : op.plain = true) :
    evD C X K acc (⟨d, op, none, ix, re⟩ :: r) fr H = bindO (step fr H op) (fun v H' => seqF (fr.put d v) (fun fr => aft re acc fr H' (evD C X K (⟨d, op, none, ix, re⟩ :: acc) r fr H') (tag _)) (tag _)) (tag _) := by
  have e := evOp_plain C fr H ⟨d, op, none, ix, re⟩ (fun fr' H' => (re = [] ∨ rechecks fr' H' re acc) ∧ evD C X K (⟨d, op, none, ix, re⟩ :: acc) r fr' H') (X fr) h
  simp only [evD]
  exact e
@[go_sem ↓] theorem d_call (C : CallT) (X : Fr → V → Heap → Prop) (K : Fr → Heap → Prop) (acc : List AOper) (d : Option Nat) (f : Opd) (args : List Opd) (ix : Nat) (re : List Nat) (r : List AOper) (fr : Fr) (H : Heap) :
    evD C X K acc (⟨d, .call f args, none, ix, re⟩ :: r) fr H = bindG (callee fr f args) (fun g l => CallL C g l H (fun out H' => match out with
      | .ret v => seqF (fr.put d v) (fun fr => aft re acc fr H' (evD C X K (⟨d, .call f args, none, ix, re⟩ :: acc) r fr H') (tag _)) (tag _)
      | .pan v => X fr v H') (tag _)) (tag _) := by
  simp only [evD, evOp, bindG]; cases callee fr f args <;> rfl
@[go_sem ↓] theorem d_g (C : CallT) (X : Fr → V → Heap → Prop) (K : Fr → Heap → Prop) (acc : List AOper) (d : Option Nat) (op : AOp) (t : Nat) (w : Bool) (ix : Nat) (r : List AOper) (fr : Fr) (H : Heap) :
    evD C X K acc (⟨d, op, some (t, w), ix, []⟩ :: r) fr H = bindV (fr.get t) (fun c => gdV c w (evOp C fr H ⟨d, op, none, ix, []⟩ (evD C X K (⟨d, op, some (t, w), ix, []⟩ :: acc) r) (X fr))
      (seqF (fr.put d (.tup [])) (fun fr => evD C X K (⟨d, op, some (t, w), ix, []⟩ :: acc) r fr H) (tag _)) (tag _) (tag _)) (tag _) := by
  have e : ∀ g K, evOp C fr H ⟨d, op, g, ix, []⟩ K (X fr) = evOp C fr H ⟨d, op, none, ix, []⟩ K (X fr) := fun g K => by cases op <;> rfl
  simp only [evD, bindV, gdV, true_or, true_and]
  rw [e]
  cases fr.get t with
  | none => rfl
  | some v => cases v <;> first | rfl | (rename_i l; cases l <;> rfl)
theorem op_plain (C : CallT) (fr : Fr) (H : Heap) (d : Option Nat) (op : AOp) (g : Option (Nat × Bool)) (ix : Nat) (re : List Nat) (K : Fr → Heap → Prop) (X : V → Heap → Prop) (h : op.plain = true) :
    evOp C fr H ⟨d, op, g, ix, re⟩ K X = bindO (step fr H op) (fun v H' => seqF (fr.put d v) (fun fr => K fr H') (tag _)) (tag _) := evOp_plain C fr H ⟨d, op, g, ix, re⟩ K X h
@[go_sem ↓] theorem op_call (C : CallT) (fr : Fr) (H : Heap) (d : Option Nat) (f : Opd) (args : List Opd) (g : Option (Nat × Bool)) (ix : Nat) (re : List Nat) (K : Fr → Heap → Prop) (X : V → Heap → Prop) :
    evOp C fr H ⟨d, .call f args, g, ix, re⟩ K X = bindG (callee fr f args) (fun g l => CallL C g l H (fun out H' => match out with
      | .ret v => seqF (fr.put d v) (fun fr => K fr H') (tag _)
      | .pan v => X v H') (tag _)) (tag _) := by
  simp only [evOp, bindG]; cases callee fr f args <;> rfl

@[go_sem ↓] theorem d_mv (C : CallT) (X : Fr → V → Heap → Prop) (K : Fr → Heap → Prop) (acc : List AOper) (d : Option Nat) (qx : Opd) (ix : Nat) (re : List Nat) (r : List AOper) (fr : Fr) (H : Heap) :
    evD C X K acc (⟨d, .mv qx, none, ix, re⟩ :: r) fr H = bindO (step fr H (.mv qx)) (fun v H' => seqF (fr.put d v) (fun fr => aft re acc fr H' (evD C X K (⟨d, .mv qx, none, ix, re⟩ :: acc) r fr H') (tag _)) (tag _)) (tag _) := d_op C X K acc d _ ix re r fr H rfl
@[go_sem ↓] theorem op_mv (C : CallT) (fr : Fr) (H : Heap) (d : Option Nat) (qx : Opd) (g : Option (Nat × Bool)) (ix : Nat) (re : List Nat) (K : Fr → Heap → Prop) (X : V → Heap → Prop) :
    evOp C fr H ⟨d, .mv qx, g, ix, re⟩ K X = bindO (step fr H (.mv qx)) (fun v H' => seqF (fr.put d v) (fun fr => K fr H') (tag _)) (tag _) := op_plain C fr H d _ g ix re K X rfl
@[go_sem ↓] theorem ops_pick (C : CallT) (X : Fr → V → Heap → Prop) (K : Fr → Heap → Prop) (d : Option Nat) (qc qa qb : Opd) (ix : Nat) (re : List Nat) (r : List AOper) (fr : Fr) (H : Heap) :
    evOps C X K (⟨d, .pick qc qa qb, none, ix, re⟩ :: r) fr H = bindO (step fr H (.pick qc qa qb)) (fun v H' => seqF (fr.put d v) (fun fr => evOps C X K r fr H') (tag _)) (tag _) := ops_op C X K d _ ix re r fr H rfl
@[go_sem ↓] theorem d_pick (C : CallT) (X : Fr → V → Heap → Prop) (K : Fr → Heap → Prop) (acc : List AOper) (d : Option Nat) (qc qa qb : Opd) (ix : Nat) (re : List Nat) (r : List AOper) (fr : Fr) (H : Heap) :
    evD C X K acc (⟨d, .pick qc qa qb, none, ix, re⟩ :: r) fr H = bindO (step fr H (.pick qc qa qb)) (fun v H' => seqF (fr.put d v) (fun fr => aft re acc fr H' (evD C X K (⟨d, .pick qc qa qb, none, ix, re⟩ :: acc) r fr H') (tag _)) (tag _)) (tag _) := d_op C X K acc d _ ix re r fr H rfl
@[go_sem ↓] theorem op_pick (C : CallT) (fr : Fr) (H : Heap) (d : Option Nat) (qc qa qb : Opd) (g : Option (Nat × Bool)) (ix : Nat) (re : List Nat) (K : Fr → Heap → Prop) (X : V → Heap → Prop) :
    evOp C fr H ⟨d, .pick qc qa qb, g, ix, re⟩ K X = bindO (step fr H (.pick qc qa qb)) (fun v H' => seqF (fr.put d v) (fun fr => K fr H') (tag _)) (tag _) := op_plain C fr H d _ g ix re K X rfl
@[go_sem ↓] theorem ops_bin (C : CallT) (X : Fr → V → Heap → Prop) (K : Fr → Heap → Prop) (d : Option Nat) (qbop : BinOp) (qk : BK) (qx qy : Opd) (ix : Nat) (re : List Nat) (r : List AOper) (fr : Fr) (H : Heap) :
    evOps C X K (⟨d, .bin qbop qk qx qy, none, ix, re⟩ :: r) fr H = bindO (step fr H (.bin qbop qk qx qy)) (fun v H' => seqF (fr.put d v) (fun fr => evOps C X K r fr H') (tag _)) (tag _) := ops_op C X K d _ ix re r fr H rfl
@[go_sem ↓] theorem d_bin (C : CallT) (X : Fr → V → Heap → Prop) (K : Fr → Heap → Prop) (acc : List AOper) (d : Option Nat) (qbop : BinOp) (qk : BK) (qx qy : Opd) (ix : Nat) (re : List Nat) (r : List AOper) (fr : Fr) (H : Heap) :
    evD C X K acc (⟨d, .bin qbop qk qx qy, none, ix, re⟩ :: r) fr H = bindO (step fr H (.bin qbop qk qx qy)) (fun v H' => seqF (fr.put d v) (fun fr => aft re acc fr H' (evD C X K (⟨d, .bin qbop qk qx qy, none, ix, re⟩ :: acc) r fr H') (tag _)) (tag _)) (tag _) := d_op C X K acc d _ ix re r fr H rfl
@[go_sem ↓] theorem op_bin (C : CallT) (fr : Fr) (H : Heap) (d : Option Nat) (qbop : BinOp) (qk : BK) (qx qy : Opd) (g : Option (Nat × Bool)) (ix : Nat) (re : List Nat) (K : Fr → Heap → Prop) (X : V → Heap → Prop) :
    evOp C fr H ⟨d, .bin qbop qk qx qy, g, ix, re⟩ K X = bindO (step fr H (.bin qbop qk qx qy)) (fun v H' => seqF (fr.put d v) (fun fr => K fr H') (tag _)) (tag _) := op_plain C fr H d _ g ix re K X rfl
@[go_sem ↓] theorem ops_un (C : CallT) (X : Fr → V → Heap → Prop) (K : Fr → Heap → Prop) (d : Option Nat) (qbop : UnOp) (qx : Opd) (ix : Nat) (re : List Nat) (r : List AOper) (fr : Fr) (H : Heap) :
    evOps C X K (⟨d, .un qbop qx, none, ix, re⟩ :: r) fr H = bindO (step fr H (.un qbop qx)) (fun v H' => seqF (fr.put d v) (fun fr => evOps C X K r fr H') (tag _)) (tag _) := ops_op C X K d _ ix re r fr H rfl
@[go_sem ↓] theorem d_un (C : CallT) (X : Fr → V → Heap → Prop) (K : Fr → Heap → Prop) (acc : List AOper) (d : Option Nat) (qbop : UnOp) (qx : Opd) (ix : Nat) (re : List Nat) (r : List AOper) (fr : Fr) (H : Heap) :
    evD C X K acc (⟨d, .un qbop qx, none, ix, re⟩ :: r) fr H = bindO (step fr H (.un qbop qx)) (fun v H' => seqF (fr.put d v) (fun fr => aft re acc fr H' (evD C X K (⟨d, .un qbop qx, none, ix, re⟩ :: acc) r fr H') (tag _)) (tag _)) (tag _) := d_op C X K acc d _ ix re r fr H rfl
@[go_sem ↓] theorem op_un (C : CallT) (fr : Fr) (H : Heap) (d : Option Nat) (qbop : UnOp) (qx : Opd) (g : Option (Nat × Bool)) (ix : Nat) (re : List Nat) (K : Fr → Heap → Prop) (X : V → Heap → Prop) :
    evOp C fr H ⟨d, .un qbop qx, g, ix, re⟩ K X = bindO (step fr H (.un qbop qx)) (fun v H' => seqF (fr.put d v) (fun fr => K fr H') (tag _)) (tag _) := op_plain C fr H d _ g ix re K X rfl
@[go_sem ↓] theorem ops_conv (C : CallT) (X : Fr → V → Heap → Prop) (K : Fr → Heap → Prop) (d : Option Nat) (qk : IntKind) (qx : Opd) (ix : Nat) (re : List Nat) (r : List AOper) (fr : Fr) (H : Heap) :
    evOps C X K (⟨d, .conv qk qx, none, ix, re⟩ :: r) fr H = bindO (step fr H (.conv qk qx)) (fun v H' => seqF (fr.put d v) (fun fr => evOps C X K r fr H') (tag _)) (tag _) := ops_op C X K d _ ix re r fr H rfl
@[go_sem ↓] theorem d_conv (C : CallT) (X : Fr → V → Heap → Prop) (K : Fr → Heap → Prop) (acc : List AOper) (d : Option Nat) (qk : IntKind) (qx : Opd) (ix : Nat) (re : List Nat) (r : List AOper) (fr : Fr) (H : Heap) :
    evD C X K acc (⟨d, .conv qk qx, none, ix, re⟩ :: r) fr H = bindO (step fr H (.conv qk qx)) (fun v H' => seqF (fr.put d v) (fun fr => aft re acc fr H' (evD C X K (⟨d, .conv qk qx, none, ix, re⟩ :: acc) r fr H') (tag _)) (tag _)) (tag _) := d_op C X K acc d _ ix re r fr H rfl
@[go_sem ↓] theorem op_conv (C : CallT) (fr : Fr) (H : Heap) (d : Option Nat) (qk : IntKind) (qx : Opd) (g : Option (Nat × Bool)) (ix : Nat) (re : List Nat) (K : Fr → Heap → Prop) (X : V → Heap → Prop) :
    evOp C fr H ⟨d, .conv qk qx, g, ix, re⟩ K X = bindO (step fr H (.conv qk qx)) (fun v H' => seqF (fr.put d v) (fun fr => K fr H') (tag _)) (tag _) := op_plain C fr H d _ g ix re K X rfl
@[go_sem ↓] theorem ops_load (C : CallT) (X : Fr → V → Heap → Prop) (K : Fr → Heap → Prop) (d : Option Nat) (qn : Option Nat) (qa : Opd) (ix : Nat) (re : List Nat) (r : List AOper) (fr : Fr) (H : Heap) :
    evOps C X K (⟨d, .load qn qa, none, ix, re⟩ :: r) fr H = bindO (step fr H (.load qn qa)) (fun v H' => seqF (fr.put d v) (fun fr => evOps C X K r fr H') (tag _)) (tag _) := ops_op C X K d _ ix re r fr H rfl
@[go_sem ↓] theorem d_load (C : CallT) (X : Fr → V → Heap → Prop) (K : Fr → Heap → Prop) (acc : List AOper) (d : Option Nat) (qn : Option Nat) (qa : Opd) (ix : Nat) (re : List Nat) (r : List AOper) (fr : Fr) (H : Heap) :
    evD C X K acc (⟨d, .load qn qa, none, ix, re⟩ :: r) fr H = bindO (step fr H (.load qn qa)) (fun v H' => seqF (fr.put d v) (fun fr => aft re acc fr H' (evD C X K (⟨d, .load qn qa, none, ix, re⟩ :: acc) r fr H') (tag _)) (tag _)) (tag _) := d_op C X K acc d _ ix re r fr H rfl
@[go_sem ↓] theorem op_load (C : CallT) (fr : Fr) (H : Heap) (d : Option Nat) (qn : Option Nat) (qa : Opd) (g : Option (Nat × Bool)) (ix : Nat) (re : List Nat) (K : Fr → Heap → Prop) (X : V → Heap → Prop) :
    evOp C fr H ⟨d, .load qn qa, g, ix, re⟩ K X = bindO (step fr H (.load qn qa)) (fun v H' => seqF (fr.put d v) (fun fr => K fr H') (tag _)) (tag _) := op_plain C fr H d _ g ix re K X rfl
@[go_sem ↓] theorem ops_store (C : CallT) (X : Fr → V → Heap → Prop) (K : Fr → Heap → Prop) (d : Option Nat) (qn : Nat) (qa qx : Opd) (ix : Nat) (re : List Nat) (r : List AOper) (fr : Fr) (H : Heap) :
    evOps C X K (⟨d, .store qn qa qx, none, ix, re⟩ :: r) fr H = bindO (step fr H (.store qn qa qx)) (fun v H' => seqF (fr.put d v) (fun fr => evOps C X K r fr H') (tag _)) (tag _) := ops_op C X K d _ ix re r fr H rfl
@[go_sem ↓] theorem d_store (C : CallT) (X : Fr → V → Heap → Prop) (K : Fr → Heap → Prop) (acc : List AOper) (d : Option Nat) (qn : Nat) (qa qx : Opd) (ix : Nat) (re : List Nat) (r : List AOper) (fr : Fr) (H : Heap) :
    evD C X K acc (⟨d, .store qn qa qx, none, ix, re⟩ :: r) fr H = bindO (step fr H (.store qn qa qx)) (fun v H' => seqF (fr.put d v) (fun fr => aft re acc fr H' (evD C X K (⟨d, .store qn qa qx, none, ix, re⟩ :: acc) r fr H') (tag _)) (tag _)) (tag _) := d_op C X K acc d _ ix re r fr H rfl
@[go_sem ↓] theorem op_store (C : CallT) (fr : Fr) (H : Heap) (d : Option Nat) (qn : Nat) (qa qx : Opd) (g : Option (Nat × Bool)) (ix : Nat) (re : List Nat) (K : Fr → Heap → Prop) (X : V → Heap → Prop) :
    evOp C fr H ⟨d, .store qn qa qx, g, ix, re⟩ K X = bindO (step fr H (.store qn qa qx)) (fun v H' => seqF (fr.put d v) (fun fr => K fr H') (tag _)) (tag _) := op_plain C fr H d _ g ix re K X rfl
@[go_sem ↓] theorem ops_alloc (C : CallT) (X : Fr → V → Heap → Prop) (K : Fr → Heap → Prop) (d : Option Nat) (qz : List V) (ix : Nat) (re : List Nat) (r : List AOper) (fr : Fr) (H : Heap) :
    evOps C X K (⟨d, .alloc qz, none, ix, re⟩ :: r) fr H = bindO (step fr H (.alloc qz)) (fun v H' => seqF (fr.put d v) (fun fr => evOps C X K r fr H') (tag _)) (tag _) := ops_op C X K d _ ix re r fr H rfl
@[go_sem ↓] theorem d_alloc (C : CallT) (X : Fr → V → Heap → Prop) (K : Fr → Heap → Prop) (acc : List AOper) (d : Option Nat) (qz : List V) (ix : Nat) (re : List Nat) (r : List AOper) (fr : Fr) (H : Heap) :
    evD C X K acc (⟨d, .alloc qz, none, ix, re⟩ :: r) fr H = bindO (step fr H (.alloc qz)) (fun v H' => seqF (fr.put d v) (fun fr => aft re acc fr H' (evD C X K (⟨d, .alloc qz, none, ix, re⟩ :: acc) r fr H') (tag _)) (tag _)) (tag _) := d_op C X K acc d _ ix re r fr H rfl
@[go_sem ↓] theorem op_alloc (C : CallT) (fr : Fr) (H : Heap) (d : Option Nat) (qz : List V) (g : Option (Nat × Bool)) (ix : Nat) (re : List Nat) (K : Fr → Heap → Prop) (X : V → Heap → Prop) :
    evOp C fr H ⟨d, .alloc qz, g, ix, re⟩ K X = bindO (step fr H (.alloc qz)) (fun v H' => seqF (fr.put d v) (fun fr => K fr H') (tag _)) (tag _) := op_plain C fr H d _ g ix re K X rfl
@[go_sem ↓] theorem ops_box (C : CallT) (X : Fr → V → Heap → Prop) (K : Fr → Heap → Prop) (d : Option Nat) (qn : Nat) (qx : Opd) (ix : Nat) (re : List Nat) (r : List AOper) (fr : Fr) (H : Heap) :
    evOps C X K (⟨d, .box qn qx, none, ix, re⟩ :: r) fr H = bindO (step fr H (.box qn qx)) (fun v H' => seqF (fr.put d v) (fun fr => evOps C X K r fr H') (tag _)) (tag _) := ops_op C X K d _ ix re r fr H rfl
@[go_sem ↓] theorem d_box (C : CallT) (X : Fr → V → Heap → Prop) (K : Fr → Heap → Prop) (acc : List AOper) (d : Option Nat) (qn : Nat) (qx : Opd) (ix : Nat) (re : List Nat) (r : List AOper) (fr : Fr) (H : Heap) :
    evD C X K acc (⟨d, .box qn qx, none, ix, re⟩ :: r) fr H = bindO (step fr H (.box qn qx)) (fun v H' => seqF (fr.put d v) (fun fr => aft re acc fr H' (evD C X K (⟨d, .box qn qx, none, ix, re⟩ :: acc) r fr H') (tag _)) (tag _)) (tag _) := d_op C X K acc d _ ix re r fr H rfl
@[go_sem ↓] theorem op_box (C : CallT) (fr : Fr) (H : Heap) (d : Option Nat) (qn : Nat) (qx : Opd) (g : Option (Nat × Bool)) (ix : Nat) (re : List Nat) (K : Fr → Heap → Prop) (X : V → Heap → Prop) :
    evOp C fr H ⟨d, .box qn qx, g, ix, re⟩ K X = bindO (step fr H (.box qn qx)) (fun v H' => seqF (fr.put d v) (fun fr => K fr H') (tag _)) (tag _) := op_plain C fr H d _ g ix re K X rfl
@[go_sem ↓] theorem ops_build (C : CallT) (X : Fr → V → Heap → Prop) (K : Fr → Heap → Prop) (d : Option Nat) (qz : List V) (qparts : List (Nat × Nat × Opd)) (ix : Nat) (re : List Nat) (r : List AOper) (fr : Fr) (H : Heap) :
    evOps C X K (⟨d, .build qz qparts, none, ix, re⟩ :: r) fr H = bindO (step fr H (.build qz qparts)) (fun v H' => seqF (fr.put d v) (fun fr => evOps C X K r fr H') (tag _)) (tag _) := ops_op C X K d _ ix re r fr H rfl
@[go_sem ↓] theorem d_build (C : CallT) (X : Fr → V → Heap → Prop) (K : Fr → Heap → Prop) (acc : List AOper) (d : Option Nat) (qz : List V) (qparts : List (Nat × Nat × Opd)) (ix : Nat) (re : List Nat) (r : List AOper) (fr : Fr) (H : Heap) :
    evD C X K acc (⟨d, .build qz qparts, none, ix, re⟩ :: r) fr H = bindO (step fr H (.build qz qparts)) (fun v H' => seqF (fr.put d v) (fun fr => aft re acc fr H' (evD C X K (⟨d, .build qz qparts, none, ix, re⟩ :: acc) r fr H') (tag _)) (tag _)) (tag _) := d_op C X K acc d _ ix re r fr H rfl
@[go_sem ↓] theorem op_build (C : CallT) (fr : Fr) (H : Heap) (d : Option Nat) (qz : List V) (qparts : List (Nat × Nat × Opd)) (g : Option (Nat × Bool)) (ix : Nat) (re : List Nat) (K : Fr → Heap → Prop) (X : V → Heap → Prop) :
    evOp C fr H ⟨d, .build qz qparts, g, ix, re⟩ K X = bindO (step fr H (.build qz qparts)) (fun v H' => seqF (fr.put d v) (fun fr => K fr H') (tag _)) (tag _) := op_plain C fr H d _ g ix re K X rfl
@[go_sem ↓] theorem ops_bslice (C : CallT) (X : Fr → V → Heap → Prop) (K : Fr → Heap → Prop) (d : Option Nat) (qesz : Nat) (qz : List V) (qlen : Nat) (qparts : List (Nat × Opd)) (ix : Nat) (re : List Nat) (r : List AOper) (fr : Fr) (H : Heap) :
    evOps C X K (⟨d, .bslice qesz qz qlen qparts, none, ix, re⟩ :: r) fr H = bindO (step fr H (.bslice qesz qz qlen qparts)) (fun v H' => seqF (fr.put d v) (fun fr => evOps C X K r fr H') (tag _)) (tag _) := ops_op C X K d _ ix re r fr H rfl
@[go_sem ↓] theorem d_bslice (C : CallT) (X : Fr → V → Heap → Prop) (K : Fr → Heap → Prop) (acc : List AOper) (d : Option Nat) (qesz : Nat) (qz : List V) (qlen : Nat) (qparts : List (Nat × Opd)) (ix : Nat) (re : List Nat) (r : List AOper) (fr : Fr) (H : Heap) :
    evD C X K acc (⟨d, .bslice qesz qz qlen qparts, none, ix, re⟩ :: r) fr H = bindO (step fr H (.bslice qesz qz qlen qparts)) (fun v H' => seqF (fr.put d v) (fun fr => aft re acc fr H' (evD C X K (⟨d, .bslice qesz qz qlen qparts, none, ix, re⟩ :: acc) r fr H') (tag _)) (tag _)) (tag _) := d_op C X K acc d _ ix re r fr H rfl
@[go_sem ↓] theorem op_bslice (C : CallT) (fr : Fr) (H : Heap) (d : Option Nat) (qesz : Nat) (qz : List V) (qlen : Nat) (qparts : List (Nat × Opd)) (g : Option (Nat × Bool)) (ix : Nat) (re : List Nat) (K : Fr → Heap → Prop) (X : V → Heap → Prop) :
    evOp C fr H ⟨d, .bslice qesz qz qlen qparts, g, ix, re⟩ K X = bindO (step fr H (.bslice qesz qz qlen qparts)) (fun v H' => seqF (fr.put d v) (fun fr => K fr H') (tag _)) (tag _) := op_plain C fr H d _ g ix re K X rfl
@[go_sem ↓] theorem ops_mkslice (C : CallT) (X : Fr → V → Heap → Prop) (K : Fr → Heap → Prop) (d : Option Nat) (qesz qebytes : Nat) (qz : List V) (qlen qcap : Opd) (ix : Nat) (re : List Nat) (r : List AOper) (fr : Fr) (H : Heap) :
    evOps C X K (⟨d, .mkslice qesz qebytes qz qlen qcap, none, ix, re⟩ :: r) fr H = bindO (step fr H (.mkslice qesz qebytes qz qlen qcap)) (fun v H' => seqF (fr.put d v) (fun fr => evOps C X K r fr H') (tag _)) (tag _) := ops_op C X K d _ ix re r fr H rfl
@[go_sem ↓] theorem d_mkslice (C : CallT) (X : Fr → V → Heap → Prop) (K : Fr → Heap → Prop) (acc : List AOper) (d : Option Nat) (qesz qebytes : Nat) (qz : List V) (qlen qcap : Opd) (ix : Nat) (re : List Nat) (r : List AOper) (fr : Fr) (H : Heap) :
    evD C X K acc (⟨d, .mkslice qesz qebytes qz qlen qcap, none, ix, re⟩ :: r) fr H = bindO (step fr H (.mkslice qesz qebytes qz qlen qcap)) (fun v H' => seqF (fr.put d v) (fun fr => aft re acc fr H' (evD C X K (⟨d, .mkslice qesz qebytes qz qlen qcap, none, ix, re⟩ :: acc) r fr H') (tag _)) (tag _)) (tag _) := d_op C X K acc d _ ix re r fr H rfl
@[go_sem ↓] theorem op_mkslice (C : CallT) (fr : Fr) (H : Heap) (d : Option Nat) (qesz qebytes : Nat) (qz : List V) (qlen qcap : Opd) (g : Option (Nat × Bool)) (ix : Nat) (re : List Nat) (K : Fr → Heap → Prop) (X : V → Heap → Prop) :
    evOp C fr H ⟨d, .mkslice qesz qebytes qz qlen qcap, g, ix, re⟩ K X = bindO (step fr H (.mkslice qesz qebytes qz qlen qcap)) (fun v H' => seqF (fr.put d v) (fun fr => K fr H') (tag _)) (tag _) := op_plain C fr H d _ g ix re K X rfl
@[go_sem ↓] theorem ops_slice (C : CallT) (X : Fr → V → Heap → Prop) (K : Fr → Heap → Prop) (d : Option Nat) (qesz : Nat) (qx : Opd) (qlo qhi qmx : Option Opd) (ix : Nat) (re : List Nat) (r : List AOper) (fr : Fr) (H : Heap) :
    evOps C X K (⟨d, .slice qesz qx qlo qhi qmx, none, ix, re⟩ :: r) fr H = bindO (step fr H (.slice qesz qx qlo qhi qmx)) (fun v H' => seqF (fr.put d v) (fun fr => evOps C X K r fr H') (tag _)) (tag _) := ops_op C X K d _ ix re r fr H rfl
@[go_sem ↓] theorem d_slice (C : CallT) (X : Fr → V → Heap → Prop) (K : Fr → Heap → Prop) (acc : List AOper) (d : Option Nat) (qesz : Nat) (qx : Opd) (qlo qhi qmx : Option Opd) (ix : Nat) (re : List Nat) (r : List AOper) (fr : Fr) (H : Heap) :
    evD C X K acc (⟨d, .slice qesz qx qlo qhi qmx, none, ix, re⟩ :: r) fr H = bindO (step fr H (.slice qesz qx qlo qhi qmx)) (fun v H' => seqF (fr.put d v) (fun fr => aft re acc fr H' (evD C X K (⟨d, .slice qesz qx qlo qhi qmx, none, ix, re⟩ :: acc) r fr H') (tag _)) (tag _)) (tag _) := d_op C X K acc d _ ix re r fr H rfl
@[go_sem ↓] theorem op_slice (C : CallT) (fr : Fr) (H : Heap) (d : Option Nat) (qesz : Nat) (qx : Opd) (qlo qhi qmx : Option Opd) (g : Option (Nat × Bool)) (ix : Nat) (re : List Nat) (K : Fr → Heap → Prop) (X : V → Heap → Prop) :
    evOp C fr H ⟨d, .slice qesz qx qlo qhi qmx, g, ix, re⟩ K X = bindO (step fr H (.slice qesz qx qlo qhi qmx)) (fun v H' => seqF (fr.put d v) (fun fr => K fr H') (tag _)) (tag _) := op_plain C fr H d _ g ix re K X rfl
@[go_sem ↓] theorem ops_substr (C : CallT) (X : Fr → V → Heap → Prop) (K : Fr → Heap → Prop) (d : Option Nat) (qx : Opd) (qlo qhi : Option Opd) (ix : Nat) (re : List Nat) (r : List AOper) (fr : Fr) (H : Heap) :
    evOps C X K (⟨d, .substr qx qlo qhi, none, ix, re⟩ :: r) fr H = bindO (step fr H (.substr qx qlo qhi)) (fun v H' => seqF (fr.put d v) (fun fr => evOps C X K r fr H') (tag _)) (tag _) := ops_op C X K d _ ix re r fr H rfl
@[go_sem ↓] theorem d_substr (C : CallT) (X : Fr → V → Heap → Prop) (K : Fr → Heap → Prop) (acc : List AOper) (d : Option Nat) (qx : Opd) (qlo qhi : Option Opd) (ix : Nat) (re : List Nat) (r : List AOper) (fr : Fr) (H : Heap) :
    evD C X K acc (⟨d, .substr qx qlo qhi, none, ix, re⟩ :: r) fr H = bindO (step fr H (.substr qx qlo qhi)) (fun v H' => seqF (fr.put d v) (fun fr => aft re acc fr H' (evD C X K (⟨d, .substr qx qlo qhi, none, ix, re⟩ :: acc) r fr H') (tag _)) (tag _)) (tag _) := d_op C X K acc d _ ix re r fr H rfl
@[go_sem ↓] theorem op_substr (C : CallT) (fr : Fr) (H : Heap) (d : Option Nat) (qx : Opd) (qlo qhi : Option Opd) (g : Option (Nat × Bool)) (ix : Nat) (re : List Nat) (K : Fr → Heap → Prop) (X : V → Heap → Prop) :
    evOp C fr H ⟨d, .substr qx qlo qhi, g, ix, re⟩ K X = bindO (step fr H (.substr qx qlo qhi)) (fun v H' => seqF (fr.put d v) (fun fr => K fr H') (tag _)) (tag _) := op_plain C fr H d _ g ix re K X rfl
@[go_sem ↓] theorem ops_fad (C : CallT) (X : Fr → V → Heap → Prop) (K : Fr → Heap → Prop) (d : Option Nat) (qoff : Nat) (qx : Opd) (ix : Nat) (re : List Nat) (r : List AOper) (fr : Fr) (H : Heap) :
    evOps C X K (⟨d, .fad qoff qx, none, ix, re⟩ :: r) fr H = bindO (step fr H (.fad qoff qx)) (fun v H' => seqF (fr.put d v) (fun fr => evOps C X K r fr H') (tag _)) (tag _) := ops_op C X K d _ ix re r fr H rfl
@[go_sem ↓] theorem d_fad (C : CallT) (X : Fr → V → Heap → Prop) (K : Fr → Heap → Prop) (acc : List AOper) (d : Option Nat) (qoff : Nat) (qx : Opd) (ix : Nat) (re : List Nat) (r : List AOper) (fr : Fr) (H : Heap) :
    evD C X K acc (⟨d, .fad qoff qx, none, ix, re⟩ :: r) fr H = bindO (step fr H (.fad qoff qx)) (fun v H' => seqF (fr.put d v) (fun fr => aft re acc fr H' (evD C X K (⟨d, .fad qoff qx, none, ix, re⟩ :: acc) r fr H') (tag _)) (tag _)) (tag _) := d_op C X K acc d _ ix re r fr H rfl
@[go_sem ↓] theorem op_fad (C : CallT) (fr : Fr) (H : Heap) (d : Option Nat) (qoff : Nat) (qx : Opd) (g : Option (Nat × Bool)) (ix : Nat) (re : List Nat) (K : Fr → Heap → Prop) (X : V → Heap → Prop) :
    evOp C fr H ⟨d, .fad qoff qx, g, ix, re⟩ K X = bindO (step fr H (.fad qoff qx)) (fun v H' => seqF (fr.put d v) (fun fr => K fr H') (tag _)) (tag _) := op_plain C fr H d _ g ix re K X rfl
@[go_sem ↓] theorem ops_fld (C : CallT) (X : Fr → V → Heap → Prop) (K : Fr → Heap → Prop) (d : Option Nat) (qoff : Nat) (qn : Option Nat) (qx : Opd) (ix : Nat) (re : List Nat) (r : List AOper) (fr : Fr) (H : Heap) :
    evOps C X K (⟨d, .fld qoff qn qx, none, ix, re⟩ :: r) fr H = bindO (step fr H (.fld qoff qn qx)) (fun v H' => seqF (fr.put d v) (fun fr => evOps C X K r fr H') (tag _)) (tag _) := ops_op C X K d _ ix re r fr H rfl
@[go_sem ↓] theorem d_fld (C : CallT) (X : Fr → V → Heap → Prop) (K : Fr → Heap → Prop) (acc : List AOper) (d : Option Nat) (qoff : Nat) (qn : Option Nat) (qx : Opd) (ix : Nat) (re : List Nat) (r : List AOper) (fr : Fr) (H : Heap) :
    evD C X K acc (⟨d, .fld qoff qn qx, none, ix, re⟩ :: r) fr H = bindO (step fr H (.fld qoff qn qx)) (fun v H' => seqF (fr.put d v) (fun fr => aft re acc fr H' (evD C X K (⟨d, .fld qoff qn qx, none, ix, re⟩ :: acc) r fr H') (tag _)) (tag _)) (tag _) := d_op C X K acc d _ ix re r fr H rfl
@[go_sem ↓] theorem op_fld (C : CallT) (fr : Fr) (H : Heap) (d : Option Nat) (qoff : Nat) (qn : Option Nat) (qx : Opd) (g : Option (Nat × Bool)) (ix : Nat) (re : List Nat) (K : Fr → Heap → Prop) (X : V → Heap → Prop) :
    evOp C fr H ⟨d, .fld qoff qn qx, g, ix, re⟩ K X = bindO (step fr H (.fld qoff qn qx)) (fun v H' => seqF (fr.put d v) (fun fr => K fr H') (tag _)) (tag _) := op_plain C fr H d _ g ix re K X rfl
@[go_sem ↓] theorem ops_iad (C : CallT) (X : Fr → V → Heap → Prop) (K : Fr → Heap → Prop) (d : Option Nat) (qarr : Option Nat) (qesz : Nat) (qx qi : Opd) (ix : Nat) (re : List Nat) (r : List AOper) (fr : Fr) (H : Heap) :
    evOps C X K (⟨d, .iad qarr qesz qx qi, none, ix, re⟩ :: r) fr H = bindO (step fr H (.iad qarr qesz qx qi)) (fun v H' => seqF (fr.put d v) (fun fr => evOps C X K r fr H') (tag _)) (tag _) := ops_op C X K d _ ix re r fr H rfl
@[go_sem ↓] theorem d_iad (C : CallT) (X : Fr → V → Heap → Prop) (K : Fr → Heap → Prop) (acc : List AOper) (d : Option Nat) (qarr : Option Nat) (qesz : Nat) (qx qi : Opd) (ix : Nat) (re : List Nat) (r : List AOper) (fr : Fr) (H : Heap) :
    evD C X K acc (⟨d, .iad qarr qesz qx qi, none, ix, re⟩ :: r) fr H = bindO (step fr H (.iad qarr qesz qx qi)) (fun v H' => seqF (fr.put d v) (fun fr => aft re acc fr H' (evD C X K (⟨d, .iad qarr qesz qx qi, none, ix, re⟩ :: acc) r fr H') (tag _)) (tag _)) (tag _) := d_op C X K acc d _ ix re r fr H rfl
@[go_sem ↓] theorem op_iad (C : CallT) (fr : Fr) (H : Heap) (d : Option Nat) (qarr : Option Nat) (qesz : Nat) (qx qi : Opd) (g : Option (Nat × Bool)) (ix : Nat) (re : List Nat) (K : Fr → Heap → Prop) (X : V → Heap → Prop) :
    evOp C fr H ⟨d, .iad qarr qesz qx qi, g, ix, re⟩ K X = bindO (step fr H (.iad qarr qesz qx qi)) (fun v H' => seqF (fr.put d v) (fun fr => K fr H') (tag _)) (tag _) := op_plain C fr H d _ g ix re K X rfl
@[go_sem ↓] theorem ops_idx (C : CallT) (X : Fr → V → Heap → Prop) (K : Fr → Heap → Prop) (d : Option Nat) (qarr : Option Nat) (qesz : Nat) (qn : Option Nat) (qx qi : Opd) (ix : Nat) (re : List Nat) (r : List AOper) (fr : Fr) (H : Heap) :
    evOps C X K (⟨d, .idx qarr qesz qn qx qi, none, ix, re⟩ :: r) fr H = bindO (step fr H (.idx qarr qesz qn qx qi)) (fun v H' => seqF (fr.put d v) (fun fr => evOps C X K r fr H') (tag _)) (tag _) := ops_op C X K d _ ix re r fr H rfl
@[go_sem ↓] theorem d_idx (C : CallT) (X : Fr → V → Heap → Prop) (K : Fr → Heap → Prop) (acc : List AOper) (d : Option Nat) (qarr : Option Nat) (qesz : Nat) (qn : Option Nat) (qx qi : Opd) (ix : Nat) (re : List Nat) (r : List AOper) (fr : Fr) (H : Heap) :
    evD C X K acc (⟨d, .idx qarr qesz qn qx qi, none, ix, re⟩ :: r) fr H = bindO (step fr H (.idx qarr qesz qn qx qi)) (fun v H' => seqF (fr.put d v) (fun fr => aft re acc fr H' (evD C X K (⟨d, .idx qarr qesz qn qx qi, none, ix, re⟩ :: acc) r fr H') (tag _)) (tag _)) (tag _) := d_op C X K acc d _ ix re r fr H rfl
@[go_sem ↓] theorem op_idx (C : CallT) (fr : Fr) (H : Heap) (d : Option Nat) (qarr : Option Nat) (qesz : Nat) (qn : Option Nat) (qx qi : Opd) (g : Option (Nat × Bool)) (ix : Nat) (re : List Nat) (K : Fr → Heap → Prop) (X : V → Heap → Prop) :
    evOp C fr H ⟨d, .idx qarr qesz qn qx qi, g, ix, re⟩ K X = bindO (step fr H (.idx qarr qesz qn qx qi)) (fun v H' => seqF (fr.put d v) (fun fr => K fr H') (tag _)) (tag _) := op_plain C fr H d _ g ix re K X rfl
@[go_sem ↓] theorem ops_nilck (C : CallT) (X : Fr → V → Heap → Prop) (K : Fr → Heap → Prop) (d : Option Nat) (qx : Opd) (ix : Nat) (re : List Nat) (r : List AOper) (fr : Fr) (H : Heap) :
    evOps C X K (⟨d, .nilck qx, none, ix, re⟩ :: r) fr H = bindO (step fr H (.nilck qx)) (fun v H' => seqF (fr.put d v) (fun fr => evOps C X K r fr H') (tag _)) (tag _) := ops_op C X K d _ ix re r fr H rfl
@[go_sem ↓] theorem d_nilck (C : CallT) (X : Fr → V → Heap → Prop) (K : Fr → Heap → Prop) (acc : List AOper) (d : Option Nat) (qx : Opd) (ix : Nat) (re : List Nat) (r : List AOper) (fr : Fr) (H : Heap) :
    evD C X K acc (⟨d, .nilck qx, none, ix, re⟩ :: r) fr H = bindO (step fr H (.nilck qx)) (fun v H' => seqF (fr.put d v) (fun fr => aft re acc fr H' (evD C X K (⟨d, .nilck qx, none, ix, re⟩ :: acc) r fr H') (tag _)) (tag _)) (tag _) := d_op C X K acc d _ ix re r fr H rfl
@[go_sem ↓] theorem op_nilck (C : CallT) (fr : Fr) (H : Heap) (d : Option Nat) (qx : Opd) (g : Option (Nat × Bool)) (ix : Nat) (re : List Nat) (K : Fr → Heap → Prop) (X : V → Heap → Prop) :
    evOp C fr H ⟨d, .nilck qx, g, ix, re⟩ K X = bindO (step fr H (.nilck qx)) (fun v H' => seqF (fr.put d v) (fun fr => K fr H') (tag _)) (tag _) := op_plain C fr H d _ g ix re K X rfl
@[go_sem ↓] theorem ops_ext (C : CallT) (X : Fr → V → Heap → Prop) (K : Fr → Heap → Prop) (d : Option Nat) (qi : Nat) (qx : Opd) (ix : Nat) (re : List Nat) (r : List AOper) (fr : Fr) (H : Heap) :
    evOps C X K (⟨d, .ext qi qx, none, ix, re⟩ :: r) fr H = bindO (step fr H (.ext qi qx)) (fun v H' => seqF (fr.put d v) (fun fr => evOps C X K r fr H') (tag _)) (tag _) := ops_op C X K d _ ix re r fr H rfl
@[go_sem ↓] theorem d_ext (C : CallT) (X : Fr → V → Heap → Prop) (K : Fr → Heap → Prop) (acc : List AOper) (d : Option Nat) (qi : Nat) (qx : Opd) (ix : Nat) (re : List Nat) (r : List AOper) (fr : Fr) (H : Heap) :
    evD C X K acc (⟨d, .ext qi qx, none, ix, re⟩ :: r) fr H = bindO (step fr H (.ext qi qx)) (fun v H' => seqF (fr.put d v) (fun fr => aft re acc fr H' (evD C X K (⟨d, .ext qi qx, none, ix, re⟩ :: acc) r fr H') (tag _)) (tag _)) (tag _) := d_op C X K acc d _ ix re r fr H rfl
@[go_sem ↓] theorem op_ext (C : CallT) (fr : Fr) (H : Heap) (d : Option Nat) (qi : Nat) (qx : Opd) (g : Option (Nat × Bool)) (ix : Nat) (re : List Nat) (K : Fr → Heap → Prop) (X : V → Heap → Prop) :
    evOp C fr H ⟨d, .ext qi qx, g, ix, re⟩ K X = bindO (step fr H (.ext qi qx)) (fun v H' => seqF (fr.put d v) (fun fr => K fr H') (tag _)) (tag _) := op_plain C fr H d _ g ix re K X rfl
@[go_sem ↓] theorem ops_mkifc (C : CallT) (X : Fr → V → Heap → Prop) (K : Fr → Heap → Prop) (d : Option Nat) (qt : Nat) (qx : Opd) (ix : Nat) (re : List Nat) (r : List AOper) (fr : Fr) (H : Heap) :
    evOps C X K (⟨d, .mkifc qt qx, none, ix, re⟩ :: r) fr H = bindO (step fr H (.mkifc qt qx)) (fun v H' => seqF (fr.put d v) (fun fr => evOps C X K r fr H') (tag _)) (tag _) := ops_op C X K d _ ix re r fr H rfl
@[go_sem ↓] theorem d_mkifc (C : CallT) (X : Fr → V → Heap → Prop) (K : Fr → Heap → Prop) (acc : List AOper) (d : Option Nat) (qt : Nat) (qx : Opd) (ix : Nat) (re : List Nat) (r : List AOper) (fr : Fr) (H : Heap) :
    evD C X K acc (⟨d, .mkifc qt qx, none, ix, re⟩ :: r) fr H = bindO (step fr H (.mkifc qt qx)) (fun v H' => seqF (fr.put d v) (fun fr => aft re acc fr H' (evD C X K (⟨d, .mkifc qt qx, none, ix, re⟩ :: acc) r fr H') (tag _)) (tag _)) (tag _) := d_op C X K acc d _ ix re r fr H rfl
@[go_sem ↓] theorem op_mkifc (C : CallT) (fr : Fr) (H : Heap) (d : Option Nat) (qt : Nat) (qx : Opd) (g : Option (Nat × Bool)) (ix : Nat) (re : List Nat) (K : Fr → Heap → Prop) (X : V → Heap → Prop) :
    evOp C fr H ⟨d, .mkifc qt qx, g, ix, re⟩ K X = bindO (step fr H (.mkifc qt qx)) (fun v H' => seqF (fr.put d v) (fun fr => K fr H') (tag _)) (tag _) := op_plain C fr H d _ g ix re K X rfl
@[go_sem ↓] theorem ops_mkfn (C : CallT) (X : Fr → V → Heap → Prop) (K : Fr → Heap → Prop) (d : Option Nat) (qg : Nat) (qfirst qcaps : List Opd) (ix : Nat) (re : List Nat) (r : List AOper) (fr : Fr) (H : Heap) :
    evOps C X K (⟨d, .mkfn qg qfirst qcaps, none, ix, re⟩ :: r) fr H = bindO (step fr H (.mkfn qg qfirst qcaps)) (fun v H' => seqF (fr.put d v) (fun fr => evOps C X K r fr H') (tag _)) (tag _) := ops_op C X K d _ ix re r fr H rfl
@[go_sem ↓] theorem d_mkfn (C : CallT) (X : Fr → V → Heap → Prop) (K : Fr → Heap → Prop) (acc : List AOper) (d : Option Nat) (qg : Nat) (qfirst qcaps : List Opd) (ix : Nat) (re : List Nat) (r : List AOper) (fr : Fr) (H : Heap) :
    evD C X K acc (⟨d, .mkfn qg qfirst qcaps, none, ix, re⟩ :: r) fr H = bindO (step fr H (.mkfn qg qfirst qcaps)) (fun v H' => seqF (fr.put d v) (fun fr => aft re acc fr H' (evD C X K (⟨d, .mkfn qg qfirst qcaps, none, ix, re⟩ :: acc) r fr H') (tag _)) (tag _)) (tag _) := d_op C X K acc d _ ix re r fr H rfl
@[go_sem ↓] theorem op_mkfn (C : CallT) (fr : Fr) (H : Heap) (d : Option Nat) (qg : Nat) (qfirst qcaps : List Opd) (g : Option (Nat × Bool)) (ix : Nat) (re : List Nat) (K : Fr → Heap → Prop) (X : V → Heap → Prop) :
    evOp C fr H ⟨d, .mkfn qg qfirst qcaps, g, ix, re⟩ K X = bindO (step fr H (.mkfn qg qfirst qcaps)) (fun v H' => seqF (fr.put d v) (fun fr => K fr H') (tag _)) (tag _) := op_plain C fr H d _ g ix re K X rfl
@[go_sem ↓] theorem ops_len (C : CallT) (X : Fr → V → Heap → Prop) (K : Fr → Heap → Prop) (d : Option Nat) (qarr : Option Nat) (qx : Opd) (ix : Nat) (re : List Nat) (r : List AOper) (fr : Fr) (H : Heap) :
    evOps C X K (⟨d, .len qarr qx, none, ix, re⟩ :: r) fr H = bindO (step fr H (.len qarr qx)) (fun v H' => seqF (fr.put d v) (fun fr => evOps C X K r fr H') (tag _)) (tag _) := ops_op C X K d _ ix re r fr H rfl
@[go_sem ↓] theorem d_len (C : CallT) (X : Fr → V → Heap → Prop) (K : Fr → Heap → Prop) (acc : List AOper) (d : Option Nat) (qarr : Option Nat) (qx : Opd) (ix : Nat) (re : List Nat) (r : List AOper) (fr : Fr) (H : Heap) :
    evD C X K acc (⟨d, .len qarr qx, none, ix, re⟩ :: r) fr H = bindO (step fr H (.len qarr qx)) (fun v H' => seqF (fr.put d v) (fun fr => aft re acc fr H' (evD C X K (⟨d, .len qarr qx, none, ix, re⟩ :: acc) r fr H') (tag _)) (tag _)) (tag _) := d_op C X K acc d _ ix re r fr H rfl
@[go_sem ↓] theorem op_len (C : CallT) (fr : Fr) (H : Heap) (d : Option Nat) (qarr : Option Nat) (qx : Opd) (g : Option (Nat × Bool)) (ix : Nat) (re : List Nat) (K : Fr → Heap → Prop) (X : V → Heap → Prop) :
    evOp C fr H ⟨d, .len qarr qx, g, ix, re⟩ K X = bindO (step fr H (.len qarr qx)) (fun v H' => seqF (fr.put d v) (fun fr => K fr H') (tag _)) (tag _) := op_plain C fr H d _ g ix re K X rfl
@[go_sem ↓] theorem ops_slen (C : CallT) (X : Fr → V → Heap → Prop) (K : Fr → Heap → Prop) (d : Option Nat) (qx : Opd) (ix : Nat) (re : List Nat) (r : List AOper) (fr : Fr) (H : Heap) :
    evOps C X K (⟨d, .slen qx, none, ix, re⟩ :: r) fr H = bindO (step fr H (.slen qx)) (fun v H' => seqF (fr.put d v) (fun fr => evOps C X K r fr H') (tag _)) (tag _) := ops_op C X K d _ ix re r fr H rfl
@[go_sem ↓] theorem d_slen (C : CallT) (X : Fr → V → Heap → Prop) (K : Fr → Heap → Prop) (acc : List AOper) (d : Option Nat) (qx : Opd) (ix : Nat) (re : List Nat) (r : List AOper) (fr : Fr) (H : Heap) :
    evD C X K acc (⟨d, .slen qx, none, ix, re⟩ :: r) fr H = bindO (step fr H (.slen qx)) (fun v H' => seqF (fr.put d v) (fun fr => aft re acc fr H' (evD C X K (⟨d, .slen qx, none, ix, re⟩ :: acc) r fr H') (tag _)) (tag _)) (tag _) := d_op C X K acc d _ ix re r fr H rfl
@[go_sem ↓] theorem op_slen (C : CallT) (fr : Fr) (H : Heap) (d : Option Nat) (qx : Opd) (g : Option (Nat × Bool)) (ix : Nat) (re : List Nat) (K : Fr → Heap → Prop) (X : V → Heap → Prop) :
    evOp C fr H ⟨d, .slen qx, g, ix, re⟩ K X = bindO (step fr H (.slen qx)) (fun v H' => seqF (fr.put d v) (fun fr => K fr H') (tag _)) (tag _) := op_plain C fr H d _ g ix re K X rfl
@[go_sem ↓] theorem ops_append (C : CallT) (X : Fr → V → Heap → Prop) (K : Fr → Heap → Prop) (d : Option Nat) (qesz qebytes : Nat) (qx qy : Opd) (ix : Nat) (re : List Nat) (r : List AOper) (fr : Fr) (H : Heap) :
    evOps C X K (⟨d, .append qesz qebytes qx qy, none, ix, re⟩ :: r) fr H = bindO (step fr H (.append qesz qebytes qx qy)) (fun v H' => seqF (fr.put d v) (fun fr => evOps C X K r fr H') (tag _)) (tag _) := ops_op C X K d _ ix re r fr H rfl
@[go_sem ↓] theorem d_append (C : CallT) (X : Fr → V → Heap → Prop) (K : Fr → Heap → Prop) (acc : List AOper) (d : Option Nat) (qesz qebytes : Nat) (qx qy : Opd) (ix : Nat) (re : List Nat) (r : List AOper) (fr : Fr) (H : Heap) :
    evD C X K acc (⟨d, .append qesz qebytes qx qy, none, ix, re⟩ :: r) fr H = bindO (step fr H (.append qesz qebytes qx qy)) (fun v H' => seqF (fr.put d v) (fun fr => aft re acc fr H' (evD C X K (⟨d, .append qesz qebytes qx qy, none, ix, re⟩ :: acc) r fr H') (tag _)) (tag _)) (tag _) := d_op C X K acc d _ ix re r fr H rfl
@[go_sem ↓] theorem op_append (C : CallT) (fr : Fr) (H : Heap) (d : Option Nat) (qesz qebytes : Nat) (qx qy : Opd) (g : Option (Nat × Bool)) (ix : Nat) (re : List Nat) (K : Fr → Heap → Prop) (X : V → Heap → Prop) :
    evOp C fr H ⟨d, .append qesz qebytes qx qy, g, ix, re⟩ K X = bindO (step fr H (.append qesz qebytes qx qy)) (fun v H' => seqF (fr.put d v) (fun fr => K fr H') (tag _)) (tag _) := op_plain C fr H d _ g ix re K X rfl
@[go_sem ↓] theorem ops_copy (C : CallT) (X : Fr → V → Heap → Prop) (K : Fr → Heap → Prop) (d : Option Nat) (qesz : Nat) (qx qy : Opd) (ix : Nat) (re : List Nat) (r : List AOper) (fr : Fr) (H : Heap) :
    evOps C X K (⟨d, .copy qesz qx qy, none, ix, re⟩ :: r) fr H = bindO (step fr H (.copy qesz qx qy)) (fun v H' => seqF (fr.put d v) (fun fr => evOps C X K r fr H') (tag _)) (tag _) := ops_op C X K d _ ix re r fr H rfl
@[go_sem ↓] theorem d_copy (C : CallT) (X : Fr → V → Heap → Prop) (K : Fr → Heap → Prop) (acc : List AOper) (d : Option Nat) (qesz : Nat) (qx qy : Opd) (ix : Nat) (re : List Nat) (r : List AOper) (fr : Fr) (H : Heap) :
    evD C X K acc (⟨d, .copy qesz qx qy, none, ix, re⟩ :: r) fr H = bindO (step fr H (.copy qesz qx qy)) (fun v H' => seqF (fr.put d v) (fun fr => aft re acc fr H' (evD C X K (⟨d, .copy qesz qx qy, none, ix, re⟩ :: acc) r fr H') (tag _)) (tag _)) (tag _) := d_op C X K acc d _ ix re r fr H rfl
@[go_sem ↓] theorem op_copy (C : CallT) (fr : Fr) (H : Heap) (d : Option Nat) (qesz : Nat) (qx qy : Opd) (g : Option (Nat × Bool)) (ix : Nat) (re : List Nat) (K : Fr → Heap → Prop) (X : V → Heap → Prop) :
    evOp C fr H ⟨d, .copy qesz qx qy, g, ix, re⟩ K X = bindO (step fr H (.copy qesz qx qy)) (fun v H' => seqF (fr.put d v) (fun fr => K fr H') (tag _)) (tag _) := op_plain C fr H d _ g ix re K X rfl
@[go_sem ↓] theorem ops_mm (C : CallT) (X : Fr → V → Heap → Prop) (K : Fr → Heap → Prop) (d : Option Nat) (qmax : Bool) (qxs : List Opd) (ix : Nat) (re : List Nat) (r : List AOper) (fr : Fr) (H : Heap) :
    evOps C X K (⟨d, .mm qmax qxs, none, ix, re⟩ :: r) fr H = bindO (step fr H (.mm qmax qxs)) (fun v H' => seqF (fr.put d v) (fun fr => evOps C X K r fr H') (tag _)) (tag _) := ops_op C X K d _ ix re r fr H rfl
@[go_sem ↓] theorem d_mm (C : CallT) (X : Fr → V → Heap → Prop) (K : Fr → Heap → Prop) (acc : List AOper) (d : Option Nat) (qmax : Bool) (qxs : List Opd) (ix : Nat) (re : List Nat) (r : List AOper) (fr : Fr) (H : Heap) :
    evD C X K acc (⟨d, .mm qmax qxs, none, ix, re⟩ :: r) fr H = bindO (step fr H (.mm qmax qxs)) (fun v H' => seqF (fr.put d v) (fun fr => aft re acc fr H' (evD C X K (⟨d, .mm qmax qxs, none, ix, re⟩ :: acc) r fr H') (tag _)) (tag _)) (tag _) := d_op C X K acc d _ ix re r fr H rfl
@[go_sem ↓] theorem op_mm (C : CallT) (fr : Fr) (H : Heap) (d : Option Nat) (qmax : Bool) (qxs : List Opd) (g : Option (Nat × Bool)) (ix : Nat) (re : List Nat) (K : Fr → Heap → Prop) (X : V → Heap → Prop) :
    evOp C fr H ⟨d, .mm qmax qxs, g, ix, re⟩ K X = bindO (step fr H (.mm qmax qxs)) (fun v H' => seqF (fr.put d v) (fun fr => K fr H') (tag _)) (tag _) := op_plain C fr H d _ g ix re K X rfl
@[go_sem ↓ high] theorem look_hit (n : Nat) (v : V) (r : List (Nat × V)) : look ((n, v) :: r) n = some v := by simp [look]
@[go_sem ↓] theorem look_cons (t n : Nat) (v : V) (r : List (Nat × V)) : look ((t, v) :: r) n = if t = n then some v else look r n := rfl
@[go_sem] theorem get_mk (tm : List (Nat × V)) (ds : List (Nat × List V)) (n : Nat) : Fr.get ⟨tm, ds⟩ n = look tm n := rfl
@[go_sem] theorem put_some (tm : List (Nat × V)) (ds : List (Nat × List V)) (n : Nat) (v : V) : Fr.put ⟨tm, ds⟩ (some n) v = ⟨(n, v) :: tm, ds⟩ := rfl
@[go_sem] theorem put_none (fr : Fr) (v : V) : Fr.put fr none v = fr := rfl
@[go_sem] theorem keep_mk (tm : List (Nat × V)) (ds : List (Nat × List V)) (l : List Nat) : Fr.keep ⟨tm, ds⟩ l = ⟨keepL tm l, ds⟩ := rfl
@[go_sem] theorem step_mv (fr : Fr) (H : Heap) (x : Opd) : step fr H (.mv x) =  (opd fr x).map fun v => (v, H) := rfl
@[go_sem] theorem step_pick (fr : Fr) (H : Heap) (c : Opd) (a : Opd) (b : Opd) : step fr H (.pick c a b) =  match opd fr c with
    | some (.bool t) => (if t then opd fr a else opd fr b).map fun v => (v, H)
    | _ => none := rfl
@[go_sem] theorem step_bin (fr : Fr) (H : Heap) (op : BinOp) (k : BK) (x : Opd) (y : Opd) : step fr H (.bin op k x y) =  match opd fr x, opd fr y with
    | some a, some b => (bin op k a b).map fun v => (v, H)
    | _, _ => none := rfl
@[go_sem] theorem step_un (fr : Fr) (H : Heap) (op : UnOp) (x : Opd) : step fr H (.un op x) =  match opd fr x with
    | some a => (unop op a).map fun v => (v, H)
    | none => none := rfl
@[go_sem] theorem step_conv (fr : Fr) (H : Heap) (k : IntKind) (x : Opd) : step fr H (.conv k x) =  match opd fr x with
    | some (.int _ n) => some (.int k (k.wrap n), H)
    | _ => none := rfl
@[go_sem] theorem step_load (fr : Fr) (H : Heap) (n : Option Nat) (a : Opd) : step fr H (.load n a) =  match opd fr a with
    | some (.ptr (some (b, o))) => (rd H n b o).map fun v => (v, H)
    | _ => none := rfl
@[go_sem] theorem step_store (fr : Fr) (H : Heap) (n : Nat) (a : Opd) (x : Opd) : step fr H (.store n a x) =  match opd fr a, opd fr x with
    | some (.ptr (some (b, o))), some v => if v.cells.length = n then (wr H b o v.cells).map fun H' => (.un, H') else none
    | _, _ => none := rfl
@[go_sem] theorem step_build (fr : Fr) (H : Heap) (z : List V) (ps : List (Nat × Nat × Opd)) : step fr H (.build z ps) =  match parts3 fr ps with
    | some l => (fillA z l).map fun cs => (.agg cs, H)
    | none => none := rfl
theorem step_slice (fr : Fr) (H : Heap) (esz : Nat) (x : Opd) (lo : Option Opd) (hi : Option Opd) (mx : Option Opd) : step fr H (.slice esz x lo hi mx) =  match opd fr x, optd fr lo, optd fr hi, optd fr mx with
    | some (.sl a len cap e), some lo, some hi, some mx =>
      if a.isSome && e != esz then none else
      match bound mx cap cap with
      | some m => match bound hi len m with
        | some h => match bound lo 0 h with
          | some l => match a with
            | some (b, o) => some (.sl (some (b, o + l * esz)) (h - l) (m - l) esz, H)
            | none => some (.sl none 0 0 0, H)
          | none => none
        | none => none
      | none => none
    | _, _, _, _ => none := rfl
theorem step_substr (fr : Fr) (H : Heap) (x : Opd) (lo : Option Opd) (hi : Option Opd) : step fr H (.substr x lo hi) =  match opd fr x, optd fr lo, optd fr hi with
    | some (.str s), some lo, some hi =>
      match bound hi s.size s.size with
      | some h => match bound lo 0 h with
        | some l => some (.str (s.extract l h), H)
        | none => none
      | none => none
    | _, _, _ => none := rfl
@[go_sem] theorem step_fad (fr : Fr) (H : Heap) (off : Nat) (x : Opd) : step fr H (.fad off x) =  match opd fr x with
    | some (.ptr (some (b, o))) => some (.ptr (some (b, o + off)), H)
    | _ => none := rfl
@[go_sem] theorem step_fld (fr : Fr) (H : Heap) (off : Nat) (n : Option Nat) (x : Opd) : step fr H (.fld off n x) =  match opd fr x with
    | some (.agg cs) => (partV cs off n).map fun v => (v, H)
    | _ => none := rfl
theorem step_iad (fr : Fr) (H : Heap) (arr : Option Nat) (esz : Nat) (x : Opd) (i : Opd) : step fr H (.iad arr esz x i) =  match opd fr x, opd fr i with
    | some (.ptr (some (b, o))), some (.int _ j) => match arr with
      | some n => if 0 ≤ j ∧ j < n then some (.ptr (some (b, o + j.toNat * esz)), H) else none
      | none => none
    | some (.sl (some (b, o)) len _ e), some (.int _ j) => match arr with
      | none => if e = esz then (if 0 ≤ j ∧ j < len then some (.ptr (some (b, o + j.toNat * esz)), H) else none) else none
      | some _ => none
    | _, _ => none := rfl
theorem step_idx (fr : Fr) (H : Heap) (arr : Option Nat) (esz : Nat) (n : Option Nat) (x : Opd) (i : Opd) : step fr H (.idx arr esz n x i) =  match opd fr x, opd fr i with
    | some (.agg cs), some (.int _ j) => match arr with
      | some m => if 0 ≤ j ∧ j < m then (partV cs (j.toNat * esz) n).map fun v => (v, H) else none
      | none => none
    | some (.str s), some (.int _ j) => match arr with
      | none => if 0 ≤ j then (s[j.toNat]?).map fun b => (.int .u8 b.toNat, H) else none
      | some _ => none
    | _, _ => none := rfl
@[go_sem] theorem step_nilck (fr : Fr) (H : Heap) (x : Opd) : step fr H (.nilck x) =  match opd fr x with
    | some (.ptr (some a)) => some (.ptr (some a), H)
    | _ => none := rfl
@[go_sem] theorem step_ext (fr : Fr) (H : Heap) (i : Nat) (x : Opd) : step fr H (.ext i x) =  match opd fr x with
    | some (.tup l) => l[i]?.map fun v => (v, H)
    | _ => none := rfl
@[go_sem] theorem step_mkifc (fr : Fr) (H : Heap) (t : Nat) (x : Opd) : step fr H (.mkifc t x) =  (opd fr x).map fun v => (.ifc t v, H) := rfl
@[go_sem] theorem step_mkfn (fr : Fr) (H : Heap) (g : Nat) (first : List Opd) (caps : List Opd) : step fr H (.mkfn g first caps) =  match opds fr first, opds fr caps with
    | some a, some b => some (.fn g a b, H)
    | _, _ => none := rfl
@[go_sem] theorem step_len_some (fr : Fr) (H : Heap) (n : Nat) (x : Opd) : step fr H (.len (some n) x) =  (opd fr x).map fun _ => (.int .i64 n, H) := rfl
@[go_sem] theorem step_len_none (fr : Fr) (H : Heap) (x : Opd) : step fr H (.len none x) =  match opd fr x with
    | some (.sl _ n _ _) => some (.int .i64 n, H)
    | _ => none := rfl
@[go_sem] theorem step_slen (fr : Fr) (H : Heap) (x : Opd) : step fr H (.slen x) =  match opd fr x with
    | some (.str s) => some (.int .i64 s.size, H)
    | _ => none := rfl
@[go_sem] theorem step_append (fr : Fr) (H : Heap) (esz : Nat) (eb : Nat) (x : Opd) (y : Opd) : step fr H (.append esz eb x y) =  match opd fr x, opd fr y with
    | some a, some b => app H esz eb a b
    | _, _ => none := rfl
@[go_sem] theorem step_copy (fr : Fr) (H : Heap) (esz : Nat) (x : Opd) (y : Opd) : step fr H (.copy esz x y) =  match opd fr x, opd fr y with
    | some a, some b => cpy H esz a b
    | _, _ => none := rfl
@[go_sem] theorem step_mm (fr : Fr) (H : Heap) (mx : Bool) (xs : List Opd) : step fr H (.mm mx xs) =  match opds fr xs with
    | some (v :: r) => (mms mx v r).map fun v => (v, H)
    | _ => none := rfl
@[go_sem] theorem step_alloc (fr : Fr) (H : Heap) (z : List V) : step fr H (.alloc z) = some (.ptr (some (H.next, 0)), H.new (.cells z true)) := rfl
@[go_sem] theorem step_box (fr : Fr) (H : Heap) (n : Nat) (x : Opd) : step fr H (.box n x) = match opd fr x with
    | some v => if v.cells.length = n then some (.ptr (some (H.next, 0)), H.new (.cells v.cells true)) else none
    | none => none := by
  simp only [step, fresh]; cases opd fr x with
  | none => rfl
  | some v => by_cases h : v.cells.length = n <;> simp [h]
@[go_sem] theorem step_bslice (fr : Fr) (H : Heap) (esz : Nat) (z : List V) (len : Nat) (ps : List (Nat × Opd)) : step fr H (.bslice esz z len ps) = match parts2 fr esz ps with
    | some l => match fillA (reps z len) l with
      | some cs => some (.sl (some (H.next, 0)) len len esz, H.new (.cells cs true))
      | none => none
    | none => none := by
  simp only [step, fresh]; cases parts2 fr esz ps with
  | none => rfl
  | some l => dsimp only; generalize fillA (reps z len) l = q; cases q <;> rfl
theorem step_mkslice (fr : Fr) (H : Heap) (esz eb : Nat) (z : List V) (len cap : Opd) : step fr H (.mkslice esz eb z len cap) = match opd fr len, opd fr cap with
    | some (.int _ l), some (.int _ c) =>
      if 0 ≤ l ∧ l ≤ c ∧ c ≤ 9223372036854775807 ∧ c * eb ≤ 281474976710656 then some (.sl (some (H.next, 0)) l.toNat c.toNat esz, H.new (.cells (reps z c.toNat) true)) else none
    | _, _ => none := by
  simp only [step, fresh]; generalize opd fr len = p; generalize opd fr cap = q
  cases p with
  | none => rfl
  | some v => cases q with
    | none => cases v <;> rfl
    | some w => cases v <;> first | rfl | (cases w <;> first | rfl | (rename_i l _ c; by_cases hc : 0 ≤ l ∧ l ≤ c ∧ c ≤ 9223372036854775807 ∧ c * eb ≤ 281474976710656 <;> simp only [hc, if_true, if_false, and_self]))
attribute [go_sem] opd opds keepL callee resOf bundle frame0 cmp arith eqs equals bin unop mms mm2 parts2 parts3 fillA reps V.cells one over piece bound optd growOk partV
attribute [go_sem] Option.map_some Option.map_none List.getElem?_cons_zero List.getElem?_cons_succ List.getElem?_nil List.append_eq List.nil_append List.cons_append List.append_nil

/-- The place of an element. -/
def iadV (arr : Option Nat) (esz : Nat) (x i : V) : Option V := match x, i with
    | .ptr (some (b, o)), .int _ j => match arr with
      | some n => if 0 ≤ j ∧ j < n then some (.ptr (some (b, o + j.toNat * esz))) else none
      | none => none
    | .sl (some (b, o)) len _ e, .int _ j => match arr with
      | none => if e = esz then (if 0 ≤ j ∧ j < len then some (.ptr (some (b, o + j.toNat * esz))) else none) else none
      | some _ => none
    | _, _ => none
def iad2 (arr : Option Nat) (esz : Nat) (x i : Option V) (H : Heap) : Option (V × Heap) := match x, i with
    | some x, some i => (iadV arr esz x i).map fun v => (v, H)
    | _, _ => none
@[go_sem] theorem step_iad2 (fr : Fr) (H : Heap) (arr : Option Nat) (esz : Nat) (x i : Opd) : step fr H (.iad arr esz x i) = iad2 arr esz (opd fr x) (opd fr i) H := by
  rw [step_iad]; unfold iad2
  generalize opd fr x = p; generalize opd fr i = q
  cases p with
  | none => rfl
  | some v => cases q with
    | none => cases v <;> first | rfl | (rename_i a; cases a <;> rfl) | (rename_i a _ _ _; cases a <;> rfl)
    | some w =>
      dsimp only; unfold iadV
      cases v with
      | ptr a => cases a with
        | none => rfl
        | some a => cases w <;> first | rfl | (cases arr <;> first | rfl | (dsimp only; split <;> rfl))
      | sl a len c e => cases a with
        | none => rfl
        | some a => cases w <;> first | rfl | (cases arr <;> first | rfl | (dsimp only; split <;> first | rfl | (split <;> rfl)))
      | _ => rfl
@[go_sem] theorem iad2_some (arr : Option Nat) (esz : Nat) (x i : V) (H : Heap) : iad2 arr esz (some x) (some i) H = (iadV arr esz x i).map fun v => (v, H) := rfl
@[go_sem] theorem iadV_sl (e b o len c : Nat) (k : IntKind) (j : Int) (h : 0 ≤ j ∧ j < len) : iadV none e (.sl (some (b, o)) len c e) (.int k j) = some (.ptr (some (b, o + j.toNat * e))) := by
  simp only [iadV, if_true]; rw [if_pos h]
@[go_sem] theorem iadV_arr (n e b o : Nat) (k : IntKind) (j : Int) (h : 0 ≤ j ∧ j < n) : iadV (some n) e (.ptr (some (b, o))) (.int k j) = some (.ptr (some (b, o + j.toNat * e))) := by
  simp only [iadV]; rw [if_pos h]
def mks2 (esz eb : Nat) (z : List V) (len cap : Option V) (H : Heap) : Option (V × Heap) := match len, cap with
    | some (.int _ l), some (.int _ c) =>
      if 0 ≤ l ∧ l ≤ c ∧ c ≤ 9223372036854775807 ∧ c * eb ≤ 281474976710656 then some (.sl (some (H.next, 0)) l.toNat c.toNat esz, H.new (.cells (reps z c.toNat) true)) else none
    | _, _ => none
@[go_sem] theorem step_mks2 (fr : Fr) (H : Heap) (esz eb : Nat) (z : List V) (len cap : Opd) : step fr H (.mkslice esz eb z len cap) = mks2 esz eb z (opd fr len) (opd fr cap) H := step_mkslice fr H esz eb z len cap
@[go_sem] theorem mks2_ok (esz eb : Nat) (z : List V) (k k' : IntKind) (l c : Int) (H : Heap) (h : 0 ≤ l ∧ l ≤ c ∧ c ≤ 9223372036854775807 ∧ c * eb ≤ 281474976710656) :
    mks2 esz eb z (some (.int k l)) (some (.int k' c)) H = some (.sl (some (H.next, 0)) l.toNat c.toNat esz, H.new (.cells (reps z c.toNat) true)) := by
  simp only [mks2]; rw [if_pos h]
def slc2 (esz : Nat) (x : Option V) (lo hi mx : Option (Option V)) (H : Heap) : Option (V × Heap) := match x, lo, hi, mx with
    | some (.sl a len cap e), some lo, some hi, some mx =>
      if a.isSome && e != esz then none else
      match bound mx cap cap with
      | some m => match bound hi len m with
        | some h => match bound lo 0 h with
          | some l => match a with
            | some (b, o) => some (.sl (some (b, o + l * esz)) (h - l) (m - l) esz, H)
            | none => some (.sl none 0 0 0, H)
          | none => none
        | none => none
      | none => none
    | _, _, _, _ => none
@[go_sem] theorem step_slc2 (fr : Fr) (H : Heap) (esz : Nat) (x : Opd) (lo hi mx : Option Opd) : step fr H (.slice esz x lo hi mx) = slc2 esz (opd fr x) (optd fr lo) (optd fr hi) (optd fr mx) H := rfl
/-- l[lo:hi]. -/
@[go_sem] theorem slc_lh (esz b o len cap : Nat) (k k' : IntKind) (l h : Int) (H : Heap) (hh : 0 ≤ l ∧ l ≤ h ∧ h ≤ cap) :
    slc2 esz (some (.sl (some (b, o)) len cap esz)) (some (some (.int k l))) (some (some (.int k' h))) (some none) H = some (.sl (some (b, o + l.toNat * esz)) (h.toNat - l.toNat) (cap - l.toNat) esz, H) := by
  simp only [slc2, bound, Option.isSome_some, Bool.true_and, bne_self_eq_false, Bool.false_eq_true, if_false]
  rw [if_pos (show 0 ≤ h ∧ h ≤ cap by omega)]; simp only []
  rw [if_pos (show 0 ≤ l ∧ l ≤ (h.toNat : Int) by omega)]
@[go_sem] theorem slc_l (esz b o len cap : Nat) (k : IntKind) (l : Int) (H : Heap) (hh : 0 ≤ l ∧ l ≤ len ∧ len ≤ cap) :
    slc2 esz (some (.sl (some (b, o)) len cap esz)) (some (some (.int k l))) (some none) (some none) H = some (.sl (some (b, o + l.toNat * esz)) (len - l.toNat) (cap - l.toNat) esz, H) := by
  simp only [slc2, bound, Option.isSome_some, Bool.true_and, bne_self_eq_false, Bool.false_eq_true, if_false]
  rw [if_pos (show 0 ≤ l ∧ l ≤ (len : Int) by omega)]
@[go_sem] theorem slc_h (esz b o len cap : Nat) (k' : IntKind) (h : Int) (H : Heap) (hh : 0 ≤ h ∧ h ≤ cap) :
    slc2 esz (some (.sl (some (b, o)) len cap esz)) (some none) (some (some (.int k' h))) (some none) H = some (.sl (some (b, o)) h.toNat cap esz, H) := by
  simp only [slc2, bound, Option.isSome_some, Bool.true_and, bne_self_eq_false, Bool.false_eq_true, if_false]
  rw [if_pos hh]; simp

@[go_sem ↓] theorem bin_shr (k k' : IntKind) (a b : Int) (h : 0 ≤ b) : bin .shr .num (.int k a) (.int k' b) = some (.int k (shr k a b)) := by
  simp only [bin]; rw [if_neg (by omega)]
@[go_sem ↓] theorem bin_shl (k k' : IntKind) (a b : Int) (h : 0 ≤ b) : bin .shl .num (.int k a) (.int k' b) = some (.int k (shl k a b)) := by
  simp only [bin]; rw [if_neg (by omega)]
theorem cdiv8 (a : Nat) : (a : Int) / 8 = ((a / 8 : Nat) : Int) := by omega
theorem cmod8 (a : Nat) : (a : Int) % 8 = ((a % 8 : Nat) : Int) := by omega

attribute [go_sem] Bool.not_true Bool.not_false decide_true decide_false not_true_eq_false not_false_eq_true Bool.false_eq_true Bool.true_eq_false ne_eq List.length_cons List.length_nil Nat.add_zero Nat.zero_add and_true true_and and_self List.all_cons List.all_nil List.take_succ_cons List.take_zero List.drop_succ_cons List.drop_zero Bool.and_true Bool.true_and Bool.and_self eq_self if_true if_false Option.isNone_some Option.isNone_none

end Go.Ab
