/- Part M3. -/
import Derived.Test.YtepfoelgegljbaaGreatDoorM02
namespace Go.Proofs.YtepfoelgegljbaaGreatDoor
set_option linter.unusedVariables false
section
variable {W:World} {base:Nat} {s:Scr} {F:Fo} (h:GScr W base s F)
include h
theorem GScr.nrs:∀ o ∈ F.flat,o.nr:=by
 rw [← h.fo]
 exact h.nr
end
theorem nr_bd {u v:Int} (hu:-1048536 ≤ u ∧ u ≤ 1048536) (hv:-1048536 ≤ v ∧ v ≤ 1048536) {o:Opr} (h:o.nr):nearB [(o.tr u v).x,(o.tr u v).y,(o.tr u v).mx,(o.tr u v).my] = true:=by
 obtain ⟨h1,h2,h3,h4⟩:=h
 have e:∀ (c:Prop) [Decidable c] (a b:Int),(-1048576 ≤ a ∧ a ≤ 1048576) → (-1048576 ≤ b ∧ b ≤ 1048576) → (-1048576 ≤ (if c then a else b) ∧ (if c then a else b) ≤ 1048576):=by
  intro c _ a b ha hb
  split
  ·exact ha
  ·exact hb
 have e1:=e (o.k = 1) (o.x + u) o.x (by omega) (by omega)
 have e2:=e (o.k = 1) (o.y + v) o.y (by omega) (by omega)
 have e3:=e (o.ms = 0) o.mx (o.mx + u) (by omega) (by omega)
 have e4:=e (o.ms = 0) o.my (o.my + v) (by omega) (by omega)
 unfold nearB withinF Opr.tr
 simp only [List.all_cons,List.all_nil,Bool.and_true,Bool.and_eq_true,decide_eq_true_eq]
 exact ⟨e1,e2,e3,e4⟩
theorem ok_tr {n mx u v:Int} (hu:-1048536 ≤ u ∧ u ≤ 1048536) (hv:-1048536 ≤ v ∧ v ≤ 1048536) (F:Fo):∀ b,F.ok n mx b → (∀ o ∈ F.flat,o.nr) → (F.tr u v).ok n mx b:=by
 induction F with
 | nil => exact fun b h _ => trivial
 | draw o r ih =>
  intro b h hn
  simp only [Fo.flat,List.mem_cons,forall_eq_or_imp] at hn
  have ho:=h.2.1
  exact ⟨h.1,⟨ho.im,ho.ms,nr_bd hu hv hn.1,ho.oc,ho.op,ho.md,ho.fr⟩,ih b h.2.2 hn.2⟩
 | grp o k r ihk ihr =>
  intro b h hn
  simp only [Fo.flat,List.mem_cons,List.mem_append,forall_eq_or_imp] at hn
  have ho:=h.2.1
  exact ⟨h.1,⟨ho.im,ho.ms,nr_bd hu hv hn.1,ho.oc,ho.op,ho.md,ho.fr⟩,ihk _ h.2.2.1 (fun q hq => hn.2 q (.inl hq)),ihr b h.2.2.2 (fun q hq => hn.2 q (.inr (.inr hq)))⟩
theorem pos_tr (u v:Int) (F:Fo):F.pos → (F.tr u v).pos:=by
 induction F with
 | nil => exact fun h => trivial
 | draw o r ih => exact fun h => ⟨h.1,ih h.2⟩
 | grp o k r ihk ihr => exact fun h => ⟨h.1,ihk h.2.1,ihr h.2.2⟩
theorem flds_tr (u v:Int) {o:Opr} (h:fieldsB o = true):fieldsB (o.tr u v) = true:=by
 by_cases h3:o.k = 3
 ·have he:o = popO:=by
   unfold fieldsB at h
   rw [if_pos h3] at h
   exact popB_eq h3 h
  rw [he]
  rfl
 ·unfold fieldsB at h ⊢
  rw [if_neg h3] at h
  rw [if_neg (show ¬ (o.tr u v).k = 3 from h3)]
  split at h
  ·cases h
  ·rename_i h1
   rw [if_neg (show ¬ ((o.tr u v).k = 1 ∧ ((o.tr u v).iso = true ∨ (o.tr u v).kn = true)) from h1)]
   split at h
   ·cases h
   ·rename_i h2
    rw [if_neg ?_]
    ·rw [decide_eq_true_eq] at h ⊢
     rcases h with h | h
     ·exact .inl h
     ·by_cases hz:o.ms = 0
      ·refine .inr ⟨?_,?_⟩
       ·show (if o.ms = 0 then o.mx else o.mx + u) = 0
        rw [if_pos hz]
        exact h.1
       ·show (if o.ms = 0 then o.my else o.my + v) = 0
        rw [if_pos hz]
        exact h.2
      ·exact .inl hz
    ·rintro ⟨e,hh⟩
     have e':o.k = 2:=e
     refine h2 ⟨e',?_⟩
     have hx:(o.tr u v).x = o.x:=if_neg (by omega)
     have hy:(o.tr u v).y = o.y:=if_neg (by omega)
     rw [hx,hy] at hh
     exact hh
end Go.Proofs.YtepfoelgegljbaaGreatDoor
