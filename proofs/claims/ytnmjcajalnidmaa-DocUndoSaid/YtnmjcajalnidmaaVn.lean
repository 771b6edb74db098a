/- Documents: what was, kept. Conditions: none. -/
import Derived.Test.YtnmjcajalnidmaaVk
import Derived.Test.YtnmjcajalnidmaaVl
set_option linter.all false
namespace Go.Ab
def KLas (k : V × List BR) : List As := Lst k.1 3 k.2.length (brCells k.2) :: k.2.map BR.as
def BkA (bv : V) (KL : List (V × List BR)) (T : List As) : List As := Lst bv 1 KL.length (KL.map Prod.fst) :: (KL.flatMap KLas ++ T)
def kKey (k : V × List BR) : Ky := k.2.map BR.k
section
variable {P : Prog} {H : Heap} {T : List As} {Q : Out → Heap → Prop} {d : Nat} {vp vs rv bv : V} {PL : List MR} {SL : List St} {BL : List BR} {KL : List (V × List BR)}
theorem keep_on (hs : Hs H (DocL d vp vs PL SL (BrL rv BL (BkA bv KL T)))) (hl : KL.length ≤ 1000) :
    ∃ bv' H2, app (H.new (.cells [rv] true)) 1 24 bv (.sl (some (H.next, 0)) 1 1 1) = some (bv', H2) ∧ Hs H2 (DocL d vp vs PL SL (BkA bv' (KL ++ [(rv, BL)]) T)) := by
  have h1 : Hs H (DocL d vp vs PL SL (Lst bv 1 KL.length (KL.map Prod.fst) :: (KLas (rv, BL) ++ (KL.flatMap KLas ++ T)))) := by
    refine docPerm hs ?_
    show (KLas (rv, BL) ++ (Lst bv 1 KL.length (KL.map Prod.fst) :: (KL.flatMap KLas ++ T))).Perm _
    exact List.perm_middle
  have h2 := docOut (A := [Lst bv 1 KL.length (KL.map Prod.fst)]) h1
  have h2 : Hs H (Lst bv 1 KL.length (KL.map Prod.fst) :: DocL d vp vs PL SL (KLas (rv, BL) ++ (KL.flatMap KLas ++ T))) := h2
  obtain ⟨ra, rc, re, hrv⟩ : ∃ a c e, rv = .sl a BL.length c e := by
    have := (h2.ownm (v := rv) (e := 3) (n := BL.length) (l := brCells BL) (by simp [DocL, KLas])).arr.shape
    exact this
  obtain ⟨bv', H2, ha, hoo, hsm, hf⟩ := app_one h2.own (M := [rv]) (m := 1) (eb := 24) rfl (by rw [hrv]; rfl) (by omega) (by omega)
  have h3 := docIn (A := [Lst bv' 1 (KL.length + 1) (KL.map Prod.fst ++ [rv])]) (h2.lst' hsm hoo hf)
  refine ⟨bv', H2, ha, docPerm h3 ?_⟩
  unfold BkA
  simp only [List.map_append, List.map_cons, List.map_nil, List.length_append, List.length_cons, List.length_nil, List.flatMap_append, List.flatMap_cons, List.flatMap_nil, List.append_nil]
  refine List.Perm.cons _ ?_
  rw [← List.append_assoc]
  exact List.Perm.append_right _ List.perm_append_comm
theorem br_drop (hs : Hs H (DocL d vp vs PL SL (BrL rv BL T))) : Hs H (DocL d vp vs PL SL T) :=
  Hs.cutl (A := KLas (rv, BL)) (docOut (A := KLas (rv, BL)) hs)
theorem br_mid {A : List As} (hs : Hs H (DocL d vp vs PL SL (BrL rv BL (A ++ T)))) : Hs H (DocL d vp vs PL SL (BrL rv BL T)) := by
  have h1 : Hs H (DocL d vp vs PL SL (A ++ (KLas (rv, BL) ++ T))) := by
    refine docPerm hs ?_
    show (KLas (rv, BL) ++ (A ++ T)).Perm _
    rw [← List.append_assoc, ← List.append_assoc]
    exact List.Perm.append_right _ List.perm_append_comm
  exact Hs.cutl (A := A) (docOut (A := A) h1)
end
end Go.Ab
