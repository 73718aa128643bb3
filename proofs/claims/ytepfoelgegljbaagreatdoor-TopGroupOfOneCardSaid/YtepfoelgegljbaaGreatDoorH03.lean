/- Part H3. -/
import Derived.Test.YtepfoelgegljbaaGreatDoorH02
namespace Go.Proofs.YtepfoelgegljbaaGreatDoor
set_option linter.unusedVariables false
theorem tl_emp {s:Scr} (hm:s.Sm) (ho:orderOk s.ord s.nt) {R:Rc} (hR:R ∈ s.tls):R.emp = false:=by
 obtain ⟨h1,h2,h3,h4,h5,h6⟩:=tls_in hm ho hR
 obtain ⟨c1,c2,c3,c4,c5,c6,c7,c8,c9,c10,c11,c12,-,-⟩:=id hm
 refine (emp_iff _).2 ⟨(good_iff _).2 ?_,h2,h5⟩
 omega
theorem place_has {s:Scr} {j i:Nat} (hj:j < s.ht) (hi:i < s.wd):s.can.has (s.can.x + i) (s.can.y + j):=by
 unfold Scr.ht at hj
 unfold Scr.wd at hi
 unfold Rc.has
 omega
theorem img_rep {s:Scr} {F:Fo} (hm:s.Sm) (hV:s.Vb F) (hS:SrcOk s.ims s.mx) (hmx:s.mx = 255 ∨ s.mx = 65535) (hs:∀ i,(imAt s.ims i).sm) (kn:Bool) (n:Nat) (t:Scr) (e1:t.can = s.can) (e2:t.ims = s.ims) (e3:t.mx = s.mx) (e4:t.tls = s.tls) :
  t.img (F.rep s.mx kn n) = s.img F:=by
 have ew:t.wd = s.wd:=by unfold Scr.wd; rw [e1]
 have eh:t.ht = s.ht:=by unfold Scr.ht; rw [e1]
 rw [img_eq,img_eq,ew,eh]
 refine imgG_ext fun j i hj hi => ?_
 have hp:=place_has hj hi
 unfold Scr.gF
 rw [e1,e2,e3,e4]
 have h:=fold_eq (can:=s.can) (can2:=s.can) (l:=s.ims) (l2:=s.ims) (mx:=s.mx) (mx2:=s.mx) (F:=F) (G:=F.rep s.mx kn n) id j i s.tls (fun R hR => ⟨Iff.rfl,fun hin => by
  unfold ptF
  dsimp only [id]
  rw [evalF_rep hmx hS (sm_emp hm) (tl_emp hm (vb_ord hV) hR) hp hin hs kn F true n baseF hV.ok]⟩) (fun _ _ => pxz) (fun _ _ => pxz) rfl
 rw [List.map_id] at h
 exact h
theorem pos_rep {m:Int} (hm:0 ≤ m) (kn:Bool) (F:Fo):∀ n,F.pos → (F.rep m kn n).pos:=by
 induction F with
 | nil => exact fun n h => trivial
 | draw o r ih =>
  intro n h
  cases n with
  | zero => exact ⟨h.1,⟨hm,trivial⟩,h.2⟩
  | succ n => exact ⟨h.1,ih n h.2⟩
 | grp o k r ihk ihr =>
  intro n h
  cases n with
  | zero => exact h
  | succ n =>
   show (if n < k.sz then Fo.grp o (k.rep m kn n) r else if n = k.sz then .grp o k r else .grp o k (r.rep m kn (n - k.sz - 1))).pos
   split
   ·exact ⟨h.1,ihk n h.2.1,h.2.2⟩
   ·split
    ·exact h
    ·exact ⟨h.1,h.2.1,ihr _ h.2.2⟩
theorem flds_g {o:Opr} (kn:Bool) (hk:o.k = 1) (h:fieldsB o = true):fieldsB (gOf kn o) = true:=by
 unfold fieldsB at h ⊢
 rw [if_neg (by omega)] at h
 rw [if_neg (by show ¬ ((2:Int) = 3); decide),if_neg (by rintro ⟨e,-⟩; exact absurd (show (2:Int) = 1 from e) (by decide)),if_neg (by rintro ⟨-,e | e | e⟩ <;> exact e rfl)]
 split at h
 ·cases h
 ·rw [if_neg (by omega)] at h
  exact h
theorem flds_d (m:Int) (o:Opr):fieldsB (dOf m o) = true:=by
 unfold fieldsB
 rw [if_neg (by show ¬ ((1:Int) = 3); decide),if_neg (by rintro ⟨-,e | e⟩ <;> cases e),if_neg (by rintro ⟨e,-⟩; exact absurd (show (1:Int) = 2 from e) (by decide))]
 exact decide_eq_true (.inr ⟨rfl,rfl⟩)
theorem mem_rep {m:Int} {kn:Bool} {q:Opr}:∀ (l:List Opr) (n:Nat),q ∈ repL m kn l n → q ∈ l ∨ q = popO ∨ (∃ o ∈ l,o.k = 1 ∧ (q = gOf kn o ∨ q = dOf m o)):=by
 intro l
 induction l with
 | nil => exact fun n h => absurd h (by simp [repL])
 | cons o r ih =>
  intro n h
  cases n with
  | zero =>
   unfold repL at h
   split at h
   ·rename_i hk
    simp only [List.mem_cons] at h
    rcases h with h | h | h | h
    ·exact .inr (.inr ⟨o,List.mem_cons_self ..,hk,.inl h⟩)
    ·exact .inr (.inr ⟨o,List.mem_cons_self ..,hk,.inr h⟩)
    ·exact .inr (.inl h)
    ·exact .inl (List.mem_cons_of_mem _ h)
   ·exact .inl h
  | succ n =>
   unfold repL at h
   rcases List.mem_cons.1 h with h | h
   ·exact .inl (by rw [h]; exact List.mem_cons_self ..)
   ·rcases ih n h with h | h | ⟨p,hp,h⟩
    ·exact .inl (List.mem_cons_of_mem _ h)
    ·exact .inr (.inl h)
    ·exact .inr (.inr ⟨p,List.mem_cons_of_mem _ hp,h⟩)
theorem flds_rep {m:Int} {kn:Bool} {l:List Opr} (h:∀ o ∈ l,fieldsB o = true) (n:Nat):∀ q ∈ repL m kn l n,fieldsB q = true:=by
 intro q hq
 rcases mem_rep l n hq with h1 | rfl | ⟨o,ho,hk,rfl | rfl⟩
 ·exact h q h1
 ·rfl
 ·exact flds_g kn hk (h o ho)
 ·exact flds_d m o
theorem len_rep (m:Int) (kn:Bool) (l:List Opr):∀ n,(repL m kn l n).length ≤ l.length + 2:=by
 induction l with
 | nil => exact fun n => by simp [repL]
 | cons o r ih =>
  intro n
  cases n with
  | zero =>
   unfold repL
   split <;> simp
  | succ n =>
   unfold repL
   have:=ih n
   simp only [List.length_cons]
   omega
end Go.Proofs.YtepfoelgegljbaaGreatDoor
