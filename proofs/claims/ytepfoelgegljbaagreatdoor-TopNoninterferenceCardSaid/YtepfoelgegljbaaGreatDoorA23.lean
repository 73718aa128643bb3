/- Part A23. -/
import Derived.Test.YtepfoelgegljbaaGreatDoorA18
namespace Go.Proofs.YtepfoelgegljbaaGreatDoor
set_option linter.unusedVariables false
def Fo.sz:Fo → Nat
 | .nil => 0
 | .draw _ r => r.sz + 1
 | .grp _ k r => k.sz + r.sz + 2
theorem Fo.len (F:Fo):F.flat.length = F.sz:=by
 induction F with
 | nil => rfl
 | draw o r ih => simp [Fo.flat,Fo.sz,ih]
 | grp o k r ihk ihr => simp [Fo.flat,Fo.sz,ihk,ihr]; omega
theorem conc_nil (G:Fo) (Fs:List Fo):conc (.nil :: G :: Fs) = popO :: conc (G :: Fs):=rfl
theorem conc_draw (o:Opr) (r:Fo) (Fs:List Fo):conc (.draw o r :: Fs) = o :: conc (r :: Fs):=by
 cases Fs <;> rfl
theorem conc_grp (o:Opr) (k r:Fo) (Fs:List Fo):conc (.grp o k r :: Fs) = o :: conc (k :: r :: Fs):=by
 cases Fs <;> simp [conc,Fo.flat]
theorem conc_flat (F G:Fo) (Fs:List Fo):conc (F :: G :: Fs) = F.flat ++ popO :: conc (G :: Fs):=rfl
def ctxR:List Opr → Bool
 | [] => true
 | o :: _ => o.free
def okZ (n mx:Int):List Fo → List Opr → Prop
 | [],_ => False
 | F :: Fs,[] => F.ok n mx true ∧ Fs = []
 | F :: Fs,o :: os => F.ok n mx o.free ∧ okZ n mx Fs os
theorem okZ_head {n mx:Int} {F:Fo} {Fs:List Fo} {os:List Opr} (h:okZ n mx (F :: Fs) os):F.ok n mx (ctxR os):=by
 cases os <;> exact h.1
theorem okZ_swap {n mx:Int} {F G:Fo} {Fs:List Fo} {os:List Opr} (h:okZ n mx (F :: Fs) os) (hG:G.ok n mx (ctxR os)):okZ n mx (G :: Fs) os:=by
 cases os <;> exact ⟨hG,h.2⟩
theorem okZ_len {n mx:Int} {Fs:List Fo} {os:List Opr} (h:okZ n mx Fs os):Fs.length = os.length + 1:=by
 induction Fs generalizing os with
 | nil => exact absurd h (by simp [okZ])
 | cons F Fs ih =>
  cases os with
  | nil => rw [h.2]; rfl
  | cons o os => simp [ih h.2]
theorem ctx_rev (op:List Opr):ctxB op = ctxR op.reverse:=by
 rcases List.eq_nil_or_concat op with rfl | ⟨l,t,rfl⟩
 ·rfl
 ·simp [ctxB,ctxR,Opr.free]
theorem popB_eq {o:Opr} (hk:o.k = 3) (h:popB o = true):o = popO:=by
 rcases o with ⟨k,im,x,y,ms,mx,my,oc,op,md,iso,kn⟩
 simp [popB] at h hk
 obtain ⟨rfl,rfl,rfl,rfl,rfl,rfl,rfl,rfl,rfl,rfl,rfl⟩:=h
 subst hk
 rfl
theorem opE_ok {n mx:Int} {o:Opr} {op:List Opr} (h:opE n mx o op = 0):(o.k = 3 ∧ o = popO ∧ op.length ≠ 0) ∨ ((o.k = 1 ∨ o.k = 2) ∧ o.ok n mx (ctxB op) ∧ (o.k = 2 → op.length < 64)):=by
 unfold opE at h
 split at h
 ·omega
 split at h
 ·omega
 rename_i hk hf
 split at h
 ·omega
 split at h
 ·rename_i h3 h4
  refine .inl ⟨h4,popB_eq h4 ?_,by omega⟩
  unfold fieldsB at hf
  rw [if_pos h4] at hf
  simpa using hf
 rename_i h3 h4
 split at h
 ·omega
 rename_i h5
 split at h
 ·omega
 rename_i h6
 split at h
 ·omega
 rename_i h7
 split at h
 ·omega
 rename_i h8
 split at h
 ·omega
 rename_i h9
 split at h
 ·omega
 rename_i h10
 split at h
 ·omega
 rename_i h11
 refine .inr ⟨by omega,⟨fun h1 => by omega,by omega,by simpa using h6,by omega,by simpa using h8,by simpa using h9,?_⟩,fun h2 => by omega⟩
 by_cases h12:o.op = 4
 ·exact .inl h12
 ·refine .inr ?_
  cases hc:ctxB op
  ·exact absurd ⟨h12,hc⟩ h10
  ·rfl
theorem opsE_parse {n mx:Int} (l:List Opr) (i:Nat) (op:List Opr) (h:(opsE n mx l i op).1 = 0):∃ Fs,l = conc Fs ∧ okZ n mx Fs op.reverse:=by
 induction l generalizing i op with
 | nil =>
  unfold opsE at h
  split at h
  ·rename_i h0
   obtain rfl:=List.length_eq_zero_iff.1 h0
   exact ⟨[.nil],rfl,trivial,rfl⟩
  ·cases h
 | cons o r ih =>
  unfold opsE at h
  split at h
  ·rename_i h0
   exact absurd h h0
  ·rename_i h0
   have h0:opE n mx o op = 0:=by simpa using h0
   rcases opE_ok h0 with ⟨h3,rfl,hl⟩ | ⟨hk,hok,_⟩
   ·rw [if_neg (by decide),if_pos (show popO.k = 3 from rfl)] at h
    obtain ⟨Fs,rfl,hz⟩:=ih _ _ h
    rcases List.eq_nil_or_concat op with rfl | ⟨l,t,rfl⟩
    ·exact absurd rfl hl
    ·cases Fs with
     | nil => exact absurd hz (by simp [okZ])
     | cons G Fs =>
      refine ⟨.nil :: G :: Fs,rfl,?_⟩
      simp at hz ⊢
      exact ⟨trivial,hz⟩
   ·rw [ctx_rev] at hok
    rcases hk with h1 | h2
    ·rw [if_neg (by omega),if_neg (by omega)] at h
     obtain ⟨Fs,rfl,hz⟩:=ih _ _ h
     cases Fs with
     | nil => exact absurd hz (by simp [okZ])
     | cons F Fs => exact ⟨.draw o F :: Fs,(conc_draw o F Fs).symm,okZ_swap hz ⟨h1,hok,okZ_head hz⟩⟩
    ·rw [if_pos h2] at h
     obtain ⟨Fs,rfl,hz⟩:=ih _ _ h
     rw [List.reverse_append] at hz
     cases Fs with
     | nil => exact absurd hz (by simp [okZ])
     | cons F Fs =>
      cases Fs with
      | nil => exact absurd hz.2 (by simp [okZ])
      | cons G Fs => exact ⟨.grp o F G :: Fs,(conc_grp o F G Fs).symm,okZ_swap hz.2 ⟨h2,hok,hz.1,okZ_head hz.2⟩⟩
theorem opsE_forest {n mx:Int} {l:List Opr} (h:(opsE n mx l 0 []).1 = 0):∃ F:Fo,l = F.flat ∧ F.ok n mx true:=by
 obtain ⟨Fs,rfl,hz⟩:=opsE_parse l 0 [] h
 cases Fs with
 | nil => exact absurd hz (by simp [okZ])
 | cons F Fs =>
  obtain ⟨h1,rfl⟩:=hz
  exact ⟨F,rfl,h1⟩
theorem drop_cons {α:Type} {l:List α} {i:Nat} {a:α} {t:List α} (h:l.drop i = a :: t):l[i]? = some a ∧ l.drop (i + 1) = t ∧ i < l.length:=by
 have h1:l[i]? = some a:=by rw [← List.head?_drop,h]; rfl
 refine ⟨h1,?_,(List.getElem?_eq_some_iff.1 h1).1⟩
 rw [← List.tail_drop,h]; rfl
theorem drop_skip {l:List Opr} {i:Nat} {o:Opr} {k r:Fo} {Fs:List Fo} (h:l.drop i = conc (.grp o k r :: Fs)):l.drop (i + k.sz + 2) = conc (r :: Fs) ∧ l[i + k.sz + 1]? = some popO:=by
 rw [conc_grp,conc_flat] at h
 have h1:=(drop_cons h).2.1
 have h2:l.drop (i + k.sz + 1) = popO :: conc (r :: Fs):=by
  rw [show i + k.sz + 1 = i + 1 + k.sz by omega,← List.drop_drop,h1,← k.len]
  simp
 exact ⟨(drop_cons h2).2.1,(drop_cons h2).1⟩
def endsF:Fo → Nat → List Int → List Int
 | .nil,_,out => out
 | .draw _ r,i,out => endsF r (i + 1) (out.set i i)
 | .grp _ k r,i,out => endsF r (i + k.sz + 2) (((endsF k (i + 1) (out.set i i)).set (i + k.sz + 1) ((i + k.sz + 1:Nat):Int)).set i ((i + k.sz + 1:Nat):Int))
def endsZ:List Fo → List Nat → Nat → List Int → List Int
 | [],_,_,out => out
 | F :: _,[],i,out => endsF F i out
 | F :: Fs,p :: ps,i,out => endsZ Fs ps (i + F.sz + 1) (((endsF F i out).set (i + F.sz) ((i + F.sz:Nat):Int)).set p ((i + F.sz:Nat):Int))
theorem endsZ_draw (o:Opr) (r:Fo) (Fs:List Fo) (ps:List Nat) (i:Nat) (out:List Int):endsZ (.draw o r :: Fs) ps i out = endsZ (r :: Fs) ps (i + 1) (out.set i i):=by
 cases ps with
 | nil => rfl
 | cons p ps => simp only [endsZ,endsF,Fo.sz,show i + (r.sz + 1) = i + 1 + r.sz by omega]
theorem endsZ_grp (o:Opr) (k r:Fo) (Fs:List Fo) (ps:List Nat) (i:Nat) (out:List Int):endsZ (.grp o k r :: Fs) ps i out = endsZ (k :: r :: Fs) (i :: ps) (i + 1) (out.set i i):=by
 cases ps with
 | nil => simp only [endsZ,endsF,show i + 1 + k.sz = i + k.sz + 1 by omega]
 | cons p ps => simp only [endsZ,endsF,Fo.sz,show i + 1 + k.sz = i + k.sz + 1 by omega,show i + (k.sz + r.sz + 2) = i + k.sz + 2 + r.sz by omega]
theorem endsZ_pop (G:Fo) (Fs:List Fo) (p:Nat) (ps:List Nat) (i:Nat) (out:List Int):endsZ (.nil :: G :: Fs) (p :: ps) i out = endsZ (G :: Fs) ps (i + 1) ((out.set i i).set p i):=rfl
theorem endsF_len (F:Fo) (i:Nat) (out:List Int):(endsF F i out).length = out.length:=by
 induction F generalizing i out with
 | nil => rfl
 | draw o r ih => rw [endsF,ih,List.length_set]
 | grp o k r ihk ihr => rw [endsF,ihr,List.length_set,List.length_set,ihk,List.length_set]
theorem endsF_out (F:Fo) (i:Nat) (out:List Int) (j:Nat) (h:j < i ∨ i + F.sz ≤ j):(endsF F i out)[j]? = out[j]?:=by
 induction F generalizing i out with
 | nil => rfl
 | draw o r ih =>
  simp only [Fo.sz] at h
  rw [endsF,ih _ _ (by omega),List.getElem?_set_ne (by omega)]
 | grp o k r ihk ihr =>
  simp only [Fo.sz] at h
  rw [endsF,ihr _ _ (by omega),List.getElem?_set_ne (by omega),List.getElem?_set_ne (by omega),ihk _ _ (by omega),List.getElem?_set_ne (by omega)]
def endsOk (el:List Int):Fo → Nat → Prop
 | .nil,_ => True
 | .draw _ r,i => el[i]? = some (i:Int) ∧ endsOk el r (i + 1)
 | .grp _ k r,i => el[i]? = some ((i + k.sz + 1:Nat):Int) ∧ endsOk el k (i + 1) ∧ endsOk el r (i + k.sz + 2)
theorem ta23_0 {p:Prop} (h:p:=by
  simp only [Fo.sz] at h
  exact ⟨(h i (by omega) (by omega)).trans hk.1,ihk _ (fun j h1 h2 => h j (by omega) (by omega)) hk.2.1,ihr _ (fun j h1 h2 => h j (by omega) (by omega)) hk.2.2⟩):p:=h
theorem endsOk_congr {el el':List Int} (F:Fo) (i:Nat) (h:∀ j,i ≤ j → j < i + F.sz → el'[j]? = el[j]?) (hk:endsOk el F i):endsOk el' F i:=by
 induction F generalizing i with
 | nil => trivial
 | draw o r ih =>
  simp only [Fo.sz] at h
  exact ⟨(h i (by omega) (by omega)).trans hk.1,ih _ (fun j h1 h2 => h j (by omega) (by omega)) hk.2⟩
 | grp o k r ihk ihr =>
  exact ta23_0
theorem endsF_ok (F:Fo) (i:Nat) (out:List Int) (h:i + F.sz ≤ out.length):endsOk (endsF F i out) F i:=by
 induction F generalizing i out with
 | nil => trivial
 | draw o r ih =>
  simp only [Fo.sz] at h
  refine ⟨?_,ih _ _ (by rw [List.length_set]; omega)⟩
  rw [endsF,endsF_out _ _ _ _ (by omega),List.getElem?_set_self (by omega)]
 | grp o k r ihk ihr =>
  simp only [Fo.sz] at h
  refine ⟨?_,?_,ihr _ _ (by simp only [List.length_set,endsF_len]; omega)⟩
  ·rw [endsF,endsF_out _ _ _ _ (by omega),List.getElem?_set_self (by simp only [List.length_set,endsF_len]; omega)]
  ·refine endsOk_congr k (i + 1) (fun j h1 h2 => ?_) (ihk (i + 1) (out.set i i) (by rw [List.length_set]; omega))
   rw [endsF,endsF_out _ _ _ _ (by omega),List.getElem?_set_ne (by omega),List.getElem?_set_ne (by omega)]
structure Og where
 p:Nat
 o:Opr
 h:Rc
section
variable (can:Rc) (l:List Img)
def bxF:Fo → Nat → List Rc → Rc → List Rc × Rc
 | .nil,_,out,h => (out,h)
 | .draw o r,i,out,h => bxF r (i + 1) (out.set i (dBox can l o)) (hullF [h,dBox can l o])
 | .grp o k r,i,out,h => bxF r (i + k.sz + 2) (((bxF k (i + 1) out zRc).1.set (i + k.sz + 1) (boxF can l o (bxF k (i + 1) out zRc).2)).set i (boxF can l o (bxF k (i + 1) out zRc).2)) (hullF [h,boxF can l o (bxF k (i + 1) out zRc).2])
def bxZ:List Fo → List Og → Nat → List Rc → Rc → List Rc
 | [],_,_,out,_ => out
 | F :: _,[],i,out,h => (bxF can l F i out h).1
 | F :: Fs,g :: gs,i,out,h => bxZ Fs gs (i + F.sz + 1) (((bxF can l F i out h).1.set (i + F.sz) (boxF can l g.o (bxF can l F i out h).2)).set g.p (boxF can l g.o (bxF can l F i out h).2)) (hullF [g.h,boxF can l g.o (bxF can l F i out h).2])
theorem bxZ_draw (o:Opr) (r:Fo) (Fs:List Fo) (gs:List Og) (i:Nat) (out:List Rc) (h:Rc):bxZ can l (.draw o r :: Fs) gs i out h = bxZ can l (r :: Fs) gs (i + 1) (out.set i (dBox can l o)) (hullF [h,dBox can l o]):=by
 cases gs with
 | nil => rfl
 | cons g gs => simp only [bxZ,bxF,Fo.sz,show i + (r.sz + 1) = i + 1 + r.sz by omega]
theorem bxZ_grp (o:Opr) (k r:Fo) (Fs:List Fo) (gs:List Og) (i:Nat) (out:List Rc) (h:Rc):bxZ can l (.grp o k r :: Fs) gs i out h = bxZ can l (k :: r :: Fs) (⟨i,o,h⟩ :: gs) (i + 1) out zRc:=by
 cases gs with
 | nil => simp only [bxZ,bxF,show i + 1 + k.sz = i + k.sz + 1 by omega]
 | cons g gs => simp only [bxZ,bxF,Fo.sz,show i + 1 + k.sz = i + k.sz + 1 by omega,show i + (k.sz + r.sz + 2) = i + k.sz + 2 + r.sz by omega]
theorem bxZ_pop (G:Fo) (Fs:List Fo) (g:Og) (gs:List Og) (i:Nat) (out:List Rc) (h:Rc):bxZ can l (.nil :: G :: Fs) (g :: gs) i out h = bxZ can l (G :: Fs) gs (i + 1) ((out.set i (boxF can l g.o h)).set g.p (boxF can l g.o h)) (hullF [g.h,boxF can l g.o h]):=rfl
theorem bxF_len (F:Fo) (i:Nat) (out:List Rc) (h:Rc):(bxF can l F i out h).1.length = out.length:=by
 induction F generalizing i out h with
 | nil => rfl
 | draw o r ih => rw [bxF,ih,List.length_set]
 | grp o k r ihk ihr => rw [bxF,ihr,List.length_set,List.length_set,ihk]
theorem bxF_hull (F:Fo) (i:Nat) (out:List Rc) (h:Rc):(bxF can l F i out h).2 = hullFo can l F h:=by
 induction F generalizing i out h with
 | nil => rfl
 | draw o r ih => rw [bxF,ih]; rfl
 | grp o k r ihk ihr => rw [bxF,ihr,ihk]; rfl
theorem bxF_out (F:Fo) (i:Nat) (out:List Rc) (h:Rc) (j:Nat) (hj:j < i ∨ i + F.sz ≤ j):(bxF can l F i out h).1[j]? = out[j]?:=by
 induction F generalizing i out h with
 | nil => rfl
 | draw o r ih =>
  simp only [Fo.sz] at hj
  rw [bxF,ih _ _ _ (by omega),List.getElem?_set_ne (by omega)]
 | grp o k r ihk ihr =>
  simp only [Fo.sz] at hj
  rw [bxF,ihr _ _ _ (by omega),List.getElem?_set_ne (by omega),List.getElem?_set_ne (by omega),ihk _ _ _ (by omega)]
def bxOk (bl:List Rc):Fo → Nat → Prop
 | .nil,_ => True
 | .draw o r,i => bl[i]? = some (dBox can l o) ∧ bxOk bl r (i + 1)
 | .grp o k r,i => bl[i]? = some (gBox can l o k) ∧ bxOk bl k (i + 1) ∧ bxOk bl r (i + k.sz + 2)
theorem tlVFo20 {p:Prop} (h:p:=by
  simp only [Fo.sz] at h
  exact ⟨(h i (by omega) (by omega)).trans hk.1,ih _ (fun j h1 h2 => h j (by omega) (by omega)) hk.2⟩):p:=h
theorem bxOk_congr {bl bl':List Rc} (F:Fo) (i:Nat) (h:∀ j,i ≤ j → j < i + F.sz → bl'[j]? = bl[j]?) (hk:bxOk can l bl F i):bxOk can l bl' F i:=by
 induction F generalizing i with
 | nil => trivial
 | draw o r ih =>
  exact tlVFo20
 | grp o k r ihk ihr =>
  exact ta23_0
theorem bxF_ok (F:Fo) (i:Nat) (out:List Rc) (h:Rc) (hl:i + F.sz ≤ out.length):bxOk can l (bxF can l F i out h).1 F i:=by
 induction F generalizing i out h with
 | nil => trivial
 | draw o r ih =>
  simp only [Fo.sz] at hl
  refine ⟨?_,ih _ _ _ (by rw [List.length_set]; omega)⟩
  rw [bxF,bxF_out _ _ _ _ _ _ _ (by omega),List.getElem?_set_self (by omega)]
 | grp o k r ihk ihr =>
  simp only [Fo.sz] at hl
  refine ⟨?_,?_,ihr _ _ _ (by simp only [List.length_set,bxF_len]; omega)⟩
  ·rw [bxF,bxF_out _ _ _ _ _ _ _ (by omega),List.getElem?_set_self (by simp only [List.length_set,bxF_len]; omega),bxF_hull]
   rfl
  ·refine bxOk_congr can l k (i + 1) (fun j h1 h2 => ?_) (ihk (i + 1) out zRc (by omega))
   rw [bxF,bxF_out _ _ _ _ _ _ _ (by omega),List.getElem?_set_ne (by omega),List.getElem?_set_ne (by omega)]
end
section
variable (bl:List Rc) (R:Rc)
def hitAt (i:Nat):Bool:=hits ((bl[i]?).getD zRc) R
def acF:Fo → Nat → List Bool → List Bool
 | .nil,_,out => out
 | .draw _ r,i,out => acF r (i + 1) (out.set i (hitAt bl R i))
 | .grp _ k r,i,out => acF r (i + k.sz + 2) (if hitAt bl R i then (acF k (i + 1) (out.set i (hitAt bl R i))).set (i + k.sz + 1) (hitAt bl R (i + k.sz + 1)) else out.set i (hitAt bl R i))
def acZ:List Fo → Nat → List Bool → List Bool
 | [],_,out => out
 | [F],i,out => acF bl R F i out
 | F :: G :: Fs,i,out => acZ (G :: Fs) (i + F.sz + 1) ((acF bl R F i out).set (i + F.sz) (hitAt bl R (i + F.sz)))
theorem acZ_draw (o:Opr) (r:Fo) (Fs:List Fo) (i:Nat) (out:List Bool):acZ bl R (.draw o r :: Fs) i out = acZ bl R (r :: Fs) (i + 1) (out.set i (hitAt bl R i)):=by
 cases Fs with
 | nil => rfl
 | cons G Fs => simp only [acZ,acF,Fo.sz,show i + (r.sz + 1) = i + 1 + r.sz by omega]
theorem acZ_in (o:Opr) (k r:Fo) (Fs:List Fo) (i:Nat) (out:List Bool) (h:hitAt bl R i = true):acZ bl R (.grp o k r :: Fs) i out = acZ bl R (k :: r :: Fs) (i + 1) (out.set i true):=by
 cases Fs with
 | nil => simp only [acZ,acF,h,if_true,show i + 1 + k.sz = i + k.sz + 1 by omega]
 | cons G Fs => simp only [acZ,acF,Fo.sz,h,if_true,show i + 1 + k.sz = i + k.sz + 1 by omega,show i + (k.sz + r.sz + 2) = i + k.sz + 2 + r.sz by omega]
theorem acZ_skip (o:Opr) (k r:Fo) (Fs:List Fo) (i:Nat) (out:List Bool) (h:hitAt bl R i = false):acZ bl R (.grp o k r :: Fs) i out = acZ bl R (r :: Fs) (i + k.sz + 2) (out.set i false):=by
 cases Fs with
 | nil => simp only [acZ,acF,h,Bool.false_eq_true,if_false]
 | cons G Fs => simp only [acZ,acF,Fo.sz,h,Bool.false_eq_true,if_false,show i + (k.sz + r.sz + 2) = i + k.sz + 2 + r.sz by omega]
theorem acZ_pop (G:Fo) (Fs:List Fo) (i:Nat) (out:List Bool):acZ bl R (.nil :: G :: Fs) i out = acZ bl R (G :: Fs) (i + 1) (out.set i (hitAt bl R i)):=rfl
theorem acF_len (F:Fo) (i:Nat) (out:List Bool):(acF bl R F i out).length = out.length:=by
 induction F generalizing i out with
 | nil => rfl
 | draw o r ih => rw [acF,ih,List.length_set]
 | grp o k r ihk ihr =>
  rw [acF,ihr]
  split
  ·rw [List.length_set,ihk,List.length_set]
  ·rw [List.length_set]
theorem acF_out (F:Fo) (i:Nat) (out:List Bool) (j:Nat) (hj:j < i ∨ i + F.sz ≤ j):(acF bl R F i out)[j]? = out[j]?:=by
 induction F generalizing i out with
 | nil => rfl
 | draw o r ih =>
  simp only [Fo.sz] at hj
  rw [acF,ih _ _ (by omega),List.getElem?_set_ne (by omega)]
 | grp o k r ihk ihr =>
  simp only [Fo.sz] at hj
  rw [acF,ihr _ _ (by omega)]
  split
  ·rw [List.getElem?_set_ne (by omega),ihk _ _ (by omega),List.getElem?_set_ne (by omega)]
  ·rw [List.getElem?_set_ne (by omega)]
variable (can:Rc) (l:List Img)
def acOk (al:List Bool):Fo → Nat → Prop
 | .nil,_ => True
 | .draw o r,i => al[i]? = some (hits (dBox can l o) R) ∧ acOk al r (i + 1)
 | .grp o k r,i => al[i]? = some (hits (gBox can l o k) R) ∧ (hits (gBox can l o k) R = true → acOk al k (i + 1)) ∧ acOk al r (i + k.sz + 2)
theorem acOk_congr {al al':List Bool} (F:Fo) (i:Nat) (h:∀ j,i ≤ j → j < i + F.sz → al'[j]? = al[j]?) (hk:acOk R can l al F i):acOk R can l al' F i:=by
 induction F generalizing i with
 | nil => trivial
 | draw o r ih =>
  exact tlVFo20
 | grp o k r ihk ihr =>
  simp only [Fo.sz] at h
  exact ⟨(h i (by omega) (by omega)).trans hk.1,fun hh => ihk _ (fun j h1 h2 => h j (by omega) (by omega)) (hk.2.1 hh),ihr _ (fun j h1 h2 => h j (by omega) (by omega)) hk.2.2⟩
theorem acF_ok (F:Fo) (i:Nat) (out:List Bool) (hl:i + F.sz ≤ out.length) (hb:bxOk can l bl F i):acOk R can l (acF bl R F i out) F i:=by
 induction F generalizing i out with
 | nil => trivial
 | draw o r ih =>
  simp only [Fo.sz] at hl
  have hh:hitAt bl R i = hits (dBox can l o) R:=by unfold hitAt; rw [hb.1]; rfl
  refine ⟨?_,ih _ _ (by rw [List.length_set]; omega) hb.2⟩
  rw [acF,acF_out _ _ _ _ _ _ (by omega),List.getElem?_set_self (by omega),hh]
 | grp o k r ihk ihr =>
  simp only [Fo.sz] at hl
  have hh:hitAt bl R i = hits (gBox can l o k) R:=by unfold hitAt; rw [hb.1]; rfl
  refine ⟨?_,fun hg => ?_,ihr _ _ ?_ hb.2.2⟩
  ·rw [acF,acF_out _ _ _ _ _ _ (by omega),hh]
   split
   ·rw [List.getElem?_set_ne (by omega),acF_out _ _ _ _ _ _ (by omega),List.getElem?_set_self (by omega)]
   ·rw [List.getElem?_set_self (by omega)]
  ·refine acOk_congr R can l k (i + 1) (fun j h1 h2 => ?_) (ihk (i + 1) (out.set i (hitAt bl R i)) (by rw [List.length_set]; omega) hb.2.1)
   rw [acF,acF_out _ _ _ _ _ _ (by omega),hh,hg,if_pos rfl,List.getElem?_set_ne (by omega)]
  ·split
   ·simp only [List.length_set,acF_len]; omega
   ·simp only [List.length_set]; omega
end
set_option maxRecDepth 100000
open Go.RowKit
set_option linter.unusedSimpArgs false
structure Rc.ti (r:Rc):Prop where
 x0:-4194304 ≤ r.x
 x1:r.x < r.u
 x2:r.u ≤ 4194304
 y0:-4194304 ≤ r.y
 y1:r.y < r.v
 y2:r.v ≤ 4194304
set_option maxHeartbeats 4000000 in
theorem wrect_call (r:Rc) (hr:r.ti) (w:World) :
  Calls Tryz.prog 64 #[r.val] w fun e w' => e = .returned (.bool true) ∧ Bel w w':=by
 have k0:decide (-1073741824 ≤ r.x) = true:=decide_eq_true (by have:=hr.x0; have:=hr.x1; have:=hr.x2; have:=hr.y0; have:=hr.y1; have:=hr.y2; omega)
 have k1:decide (r.x ≤ 1073741824) = true:=decide_eq_true (by have:=hr.x0; have:=hr.x1; have:=hr.x2; have:=hr.y0; have:=hr.y1; have:=hr.y2; omega)
 have k2:decide (-1073741824 ≤ r.y) = true:=decide_eq_true (by have:=hr.x0; have:=hr.x1; have:=hr.x2; have:=hr.y0; have:=hr.y1; have:=hr.y2; omega)
 have k3:decide (r.y ≤ 1073741824) = true:=decide_eq_true (by have:=hr.x0; have:=hr.x1; have:=hr.x2; have:=hr.y0; have:=hr.y1; have:=hr.y2; omega)
 have k4:decide (-1073741824 ≤ r.u) = true:=decide_eq_true (by have:=hr.x0; have:=hr.x1; have:=hr.x2; have:=hr.y0; have:=hr.y1; have:=hr.y2; omega)
 have k5:decide (r.u ≤ 1073741824) = true:=decide_eq_true (by have:=hr.x0; have:=hr.x1; have:=hr.x2; have:=hr.y0; have:=hr.y1; have:=hr.y2; omega)
 have k6:decide (-1073741824 ≤ r.v) = true:=decide_eq_true (by have:=hr.x0; have:=hr.x1; have:=hr.x2; have:=hr.y0; have:=hr.y1; have:=hr.y2; omega)
 have k7:decide (r.v ≤ 1073741824) = true:=decide_eq_true (by have:=hr.x0; have:=hr.x1; have:=hr.x2; have:=hr.y0; have:=hr.y1; have:=hr.y2; omega)
 clear hr
 go_enter Tryz.func64,Tryz.ntmps64
 go_upto_region 1 with fail
 refine at_world (fun V => Bel w V ∧ V.heap[w.heap.size]? = some (.cells #[.int .i64 r.x,.int .i64 r.y,.int .i64 r.u,.int .i64 r.v] 34)) ⟨(Bel.refl w).al _,at_new (by first | rfl | simp)⟩ ?_
 rintro V ⟨hX,eC⟩
 have Cs:=lt_of_heap eC
 have C_0:=cq0 eC rfl
 have C_1:=cq1 eC rfl
 have C_2:=cq2 eC rfl
 have C_3:=cq3 eC rfl
 have fC:=frozA eC
 go_wp2_with fail
 go_returns
 exact ⟨rfl,hX⟩
set_option maxHeartbeats 4000000 in
theorem wempty_call (r:Rc) (hr:r.ti) (w:World) :
  Calls Tryz.prog 43 #[r.val] w fun e w' => e = .returned (.bool false) ∧ Bel w w':=by
 have hV:=hd_ (wrect_call r hr)
 have k0:decide (r.u ≤ r.x) = false:=decide_eq_false (by have:=hr.x0; have:=hr.x1; have:=hr.x2; have:=hr.y0; have:=hr.y1; have:=hr.y2; omega)
 have k1:decide (r.v ≤ r.y) = false:=decide_eq_false (by have:=hr.x0; have:=hr.x1; have:=hr.x2; have:=hr.y0; have:=hr.y1; have:=hr.y2; omega)
 clear hr
 go_enter Tryz.func43,Tryz.ntmps43
 go_upto_region 1 with fail
 refine at_world (fun V => Bel w V ∧ V.heap[w.heap.size]? = some (.cells #[.int .i64 r.x,.int .i64 r.y,.int .i64 r.u,.int .i64 r.v] 34)) ⟨(Bel.refl w).al _,at_new (by first | rfl | simp)⟩ ?_
 rintro V ⟨hX,eC⟩
 have Cs:=lt_of_heap eC
 have C_0:=cq0 eC rfl
 have C_1:=cq1 eC rfl
 have C_2:=cq2 eC rfl
 have C_3:=cq3 eC rfl
 have fC:=frozA eC
 go_wp2_with (first | (go_at_call 64; (with_reducible refine (hV.out _).mono ?_); rintro e w1 ⟨rfl,hb⟩; replace hX:=hX.trans hb; replace eC:=hb.heap eC; clear Cs C_0 C_1 C_2 C_3 fC; have Cs:=lt_of_heap eC; have C_0:=cq0 eC rfl; have C_1:=cq1 eC rfl; have C_2:=cq2 eC rfl; have C_3:=cq3 eC rfl; have fC:=frozA eC; clear hb) | fail)
 go_returns
 exact ⟨rfl,hX⟩
theorem tlWNum0 {p:Prop} (h:p:=by
  repeat (with_reducible first | exact hX | refine Bel.setCell ?_ (by omega) _ | refine Bel.al ?_ _ | refine Bel.dr ?_ | refine Bel.mo ?_ _ | refine Bel.dn ?_ _)):p:=h
set_option maxHeartbeats 4000000 in
theorem wclean_call (r:Rc) (hr:r.ti) (w:World) :
  Calls Tryz.prog 44 #[r.val] w fun e w' => e = .returned r.val ∧ Bel w w':=by
 have hE:=hd_ (wempty_call r hr)
 clear hr
 go_enter Tryz.func44,Tryz.ntmps44
 go_upto_region 1 with fail
 refine at_world (fun V => Bel w V ∧ V.heap[w.heap.size]? = some (.cells #[.int .i64 r.x,.int .i64 r.y,.int .i64 r.u,.int .i64 r.v] 34) ∧ V.heap[w.heap.size + 1]? = some (.cells #[.int .i64 0,.int .i64 0,.int .i64 0,.int .i64 0] 34)) ⟨((Bel.refl w).al _).al _,at_old (at_new (by first | rfl | simp)),at_new (by first | rfl | simp)⟩ ?_
 rintro V ⟨hX,eC,eO⟩
 have Cs:=lt_of_heap eC
 have Os:=lt_of_heap eO
 have C_0:=cq0 eC rfl
 have C_1:=cq1 eC rfl
 have C_2:=cq2 eC rfl
 have C_3:=cq3 eC rfl
 have O_0:=cq0 eO rfl
 have O_1:=cq1 eO rfl
 have O_2:=cq2 eO rfl
 have O_3:=cq3 eO rfl
 have fC:=frozA eC
 have fO:=frozA eO
 go_wp2_with (first | (go_at_call 43; (with_reducible refine (hE.out _).mono ?_); rintro e w1 ⟨rfl,hb⟩; replace hX:=hX.trans hb; replace eC:=hb.heap eC; replace eO:=hb.heap eO; clear Cs C_0 C_1 C_2 C_3 fC Os O_0 O_1 O_2 O_3 fO; have Cs:=lt_of_heap eC; have Os:=lt_of_heap eO; have C_0:=cq0 eC rfl; have C_1:=cq1 eC rfl; have C_2:=cq2 eC rfl; have C_3:=cq3 eC rfl; have O_0:=cq0 eO rfl; have O_1:=cq1 eO rfl; have O_2:=cq2 eO rfl; have O_3:=cq3 eO rfl; have fC:=frozA eC; have fO:=frozA eO; clear hb) | fail)
 refine bodyPost_ret (v:=.agg #[_,_,_,_]) (by simp [results,Tryz.results44,go_sem, *]) rfl ⟨rfl,?_⟩
 exact tlWNum0
set_option maxHeartbeats 4000000 in
theorem wtrans_call (r:Rc) (hr:r.ti) (dx dy:Int) (a0:-4194304 ≤ dx) (a1:dx ≤ 4194304) (b0:-4194304 ≤ dy) (b1:dy ≤ 4194304) (hq:(⟨r.x + dx,r.y + dy,r.u + dx,r.v + dy⟩:Rc).ti) (w:World) :
  Calls Tryz.prog 21 #[r.val,.int .i64 dx,.int .i64 dy] w fun e w' => e = .returned (⟨r.x + dx,r.y + dy,r.u + dx,r.v + dy⟩:Rc).val ∧ Bel w w':=by
 have hE:=hd_ (wempty_call r hr)
 have hC:=hd_ (wclean_call (⟨r.x + dx,r.y + dy,r.u + dx,r.v + dy⟩:Rc) hq)
 have k0:decide (dx < -4294967296) = false:=decide_eq_false (by have:=hr.x0; have:=hr.x1; have:=hr.x2; have:=hr.y0; have:=hr.y1; have:=hr.y2; omega)
 have k1:decide (4294967296 < dx) = false:=decide_eq_false (by have:=hr.x0; have:=hr.x1; have:=hr.x2; have:=hr.y0; have:=hr.y1; have:=hr.y2; omega)
 have k2:decide (dy < -4294967296) = false:=decide_eq_false (by have:=hr.x0; have:=hr.x1; have:=hr.x2; have:=hr.y0; have:=hr.y1; have:=hr.y2; omega)
 have k3:decide (4294967296 < dy) = false:=decide_eq_false (by have:=hr.x0; have:=hr.x1; have:=hr.x2; have:=hr.y0; have:=hr.y1; have:=hr.y2; omega)
 have t0:IntKind.i64.wrap (r.x + dx) = r.x + dx:=wrap_i64 _ (by have:=hr.x0; have:=hr.x1; have:=hr.x2; have:=hr.y0; have:=hr.y1; have:=hr.y2; omega) (by have:=hr.x0; have:=hr.x1; have:=hr.x2; have:=hr.y0; have:=hr.y1; have:=hr.y2; omega)
 have t1:IntKind.i64.wrap (r.y + dy) = r.y + dy:=wrap_i64 _ (by have:=hr.x0; have:=hr.x1; have:=hr.x2; have:=hr.y0; have:=hr.y1; have:=hr.y2; omega) (by have:=hr.x0; have:=hr.x1; have:=hr.x2; have:=hr.y0; have:=hr.y1; have:=hr.y2; omega)
 have t2:IntKind.i64.wrap (r.u + dx) = r.u + dx:=wrap_i64 _ (by have:=hr.x0; have:=hr.x1; have:=hr.x2; have:=hr.y0; have:=hr.y1; have:=hr.y2; omega) (by have:=hr.x0; have:=hr.x1; have:=hr.x2; have:=hr.y0; have:=hr.y1; have:=hr.y2; omega)
 have t3:IntKind.i64.wrap (r.v + dy) = r.v + dy:=wrap_i64 _ (by have:=hr.x0; have:=hr.x1; have:=hr.x2; have:=hr.y0; have:=hr.y1; have:=hr.y2; omega) (by have:=hr.x0; have:=hr.x1; have:=hr.x2; have:=hr.y0; have:=hr.y1; have:=hr.y2; omega)
 clear hr hq
 go_enter Tryz.func21,Tryz.ntmps21
 go_upto_region 1 with fail
 refine at_world (fun V => Bel w V ∧ V.heap[w.heap.size]? = some (.cells #[.int .i64 r.x,.int .i64 r.y,.int .i64 r.u,.int .i64 r.v] 34) ∧ V.heap[w.heap.size + 1]? = some (.cells #[.int .i64 0,.int .i64 0,.int .i64 0,.int .i64 0] 34)) ⟨((Bel.refl w).al _).al _,at_old (at_new (by first | rfl | simp)),at_new (by first | rfl | simp)⟩ ?_
 rintro V ⟨hX,eC,eO⟩
 have Cs:=lt_of_heap eC
 have Os:=lt_of_heap eO
 have C_0:=cq0 eC rfl
 have C_1:=cq1 eC rfl
 have C_2:=cq2 eC rfl
 have C_3:=cq3 eC rfl
 have O_0:=cq0 eO rfl
 have O_1:=cq1 eO rfl
 have O_2:=cq2 eO rfl
 have O_3:=cq3 eO rfl
 have fC:=frozA eC
 have fO:=frozA eO
 go_wp2_with (first | ((first | (go_at_call 43; (with_reducible refine (hE.out _).mono ?_)) | (go_at_call 44; (with_reducible refine (hC.out _).mono ?_))); rintro e w1 ⟨rfl,hb⟩; replace hX:=hX.trans hb; replace eC:=hb.heap eC; replace eO:=hb.heap eO; clear Cs C_0 C_1 C_2 C_3 fC Os O_0 O_1 O_2 O_3 fO; have Cs:=lt_of_heap eC; have Os:=lt_of_heap eO; have C_0:=cq0 eC rfl; have C_1:=cq1 eC rfl; have C_2:=cq2 eC rfl; have C_3:=cq3 eC rfl; have O_0:=cq0 eO rfl; have O_1:=cq1 eO rfl; have O_2:=cq2 eO rfl; have O_3:=cq3 eO rfl; have fC:=frozA eC; have fO:=frozA eO; clear hb) | fail)
 refine bodyPost_ret (v:=.agg #[_,_,_,_]) (by simp [results,Tryz.results21,go_sem, *]) rfl ⟨rfl,?_⟩
 exact tlWNum0
theorem ceil_eq {a b:Int} (h:1 ≤ b):(a - 1) / b + 1 = (a + b - 1) / b:=by
 have:=Int.add_mul_ediv_right (a - 1) 1 (show b ≠ 0 by omega)
 rw [← this]
 congr 1
 omega
set_option maxHeartbeats 4000000 in
theorem wtiles_call (r:Rc) (hr:r.ti) (tw th:Int) (a0:1 ≤ tw) (a1:tw ≤ r.u - r.x) (b0:1 ≤ th) (b1:th ≤ r.v - r.y) (w:World) :
  Calls Tryz.prog 23 #[r.val,.int .i64 tw,.int .i64 th] w fun e w' => e = .returned (.tuple #[.int .i64 ((r.u - r.x + tw - 1) / tw),.int .i64 ((r.v - r.y + th - 1) / th),.bool true]) ∧ Bel w w':=by
 have hE:=hd_ (wempty_call r hr)
 have k0:decide (tw < 1) = false:=decide_eq_false (by have:=hr.x0; have:=hr.x1; have:=hr.x2; have:=hr.y0; have:=hr.y1; have:=hr.y2; omega)
 have k1:decide (th < 1) = false:=decide_eq_false (by have:=hr.x0; have:=hr.x1; have:=hr.x2; have:=hr.y0; have:=hr.y1; have:=hr.y2; omega)
 have k2:decide (r.u - r.x < tw) = false:=decide_eq_false (by have:=hr.x0; have:=hr.x1; have:=hr.x2; have:=hr.y0; have:=hr.y1; have:=hr.y2; omega)
 have k3:decide (r.v - r.y < th) = false:=decide_eq_false (by have:=hr.x0; have:=hr.x1; have:=hr.x2; have:=hr.y0; have:=hr.y1; have:=hr.y2; omega)
 have t0:IntKind.i64.wrap (r.u - r.x) = (r.u - r.x):=wrap_i64 _ (by have:=hr.x0; have:=hr.x1; have:=hr.x2; have:=hr.y0; have:=hr.y1; have:=hr.y2; omega) (by have:=hr.x0; have:=hr.x1; have:=hr.x2; have:=hr.y0; have:=hr.y1; have:=hr.y2; omega)
 have t1:IntKind.i64.wrap (r.v - r.y) = (r.v - r.y):=wrap_i64 _ (by have:=hr.x0; have:=hr.x1; have:=hr.x2; have:=hr.y0; have:=hr.y1; have:=hr.y2; omega) (by have:=hr.x0; have:=hr.x1; have:=hr.x2; have:=hr.y0; have:=hr.y1; have:=hr.y2; omega)
 have t2:IntKind.i64.wrap (r.u - r.x - 1) = (r.u - r.x - 1):=wrap_i64 _ (by have:=hr.x0; have:=hr.x1; have:=hr.x2; have:=hr.y0; have:=hr.y1; have:=hr.y2; omega) (by have:=hr.x0; have:=hr.x1; have:=hr.x2; have:=hr.y0; have:=hr.y1; have:=hr.y2; omega)
 have t3:IntKind.i64.wrap (r.v - r.y - 1) = (r.v - r.y - 1):=wrap_i64 _ (by have:=hr.x0; have:=hr.x1; have:=hr.x2; have:=hr.y0; have:=hr.y1; have:=hr.y2; omega) (by have:=hr.x0; have:=hr.x1; have:=hr.x2; have:=hr.y0; have:=hr.y1; have:=hr.y2; omega)
 obtain ⟨D1,e1⟩:∃ D,D = (r.u - r.x - 1) / tw:=⟨_,rfl⟩
 obtain ⟨D2,e2⟩:∃ D,D = (r.v - r.y - 1) / th:=⟨_,rfl⟩
 have d0:0 ≤ D1:=by rw [e1]; exact Int.ediv_nonneg (by have:=hr.x1; omega) (by omega)
 have d2:0 ≤ D2:=by rw [e2]; exact Int.ediv_nonneg (by have:=hr.y1; omega) (by omega)
 have d1:D1 ≤ 8388608:=by rw [e1]; exact Int.le_trans (Int.ediv_le_self _ (by have:=hr.x1; omega)) (by have:=hr.x0; have:=hr.x2; omega)
 have d3:D2 ≤ 8388608:=by rw [e2]; exact Int.le_trans (Int.ediv_le_self _ (by have:=hr.y1; omega)) (by have:=hr.y0; have:=hr.y2; omega)
 have u1:Int.tdiv (r.u - r.x - 1) tw = D1:=by rw [e1]; exact Int.tdiv_eq_ediv_of_nonneg (by have:=hr.x1; omega)
 have u2:Int.tdiv (r.v - r.y - 1) th = D2:=by rw [e2]; exact Int.tdiv_eq_ediv_of_nonneg (by have:=hr.y1; omega)
 have u3:IntKind.i64.wrap D1 = D1:=wrap_i64 _ (by omega) (by omega)
 have u4:IntKind.i64.wrap D2 = D2:=wrap_i64 _ (by omega) (by omega)
 have u5:IntKind.i64.wrap (D1 + 1) = D1 + 1:=wrap_i64 _ (by omega) (by omega)
 have u6:IntKind.i64.wrap (D2 + 1) = D2 + 1:=wrap_i64 _ (by omega) (by omega)
 have n1:(tw == 0) = false:=beq_eq_false_iff_ne.2 (by omega)
 have n2:(th == 0) = false:=beq_eq_false_iff_ne.2 (by omega)
 rw [← ceil_eq a0,← ceil_eq b0,← e1,← e2]
 clear e1 e2 hr
 go_enter Tryz.func23,Tryz.ntmps23
 go_upto_region 1 with fail
 refine at_world (fun V => Bel w V ∧ V.heap[w.heap.size]? = some (.cells #[.int .i64 r.x,.int .i64 r.y,.int .i64 r.u,.int .i64 r.v] 34)) ⟨(Bel.refl w).al _,at_new (by first | rfl | simp)⟩ ?_
 rintro V ⟨hX,eC⟩
 have Cs:=lt_of_heap eC
 have C_0:=cq0 eC rfl
 have C_1:=cq1 eC rfl
 have C_2:=cq2 eC rfl
 have C_3:=cq3 eC rfl
 have fC:=frozA eC
 go_upto_region 3 with (first | (go_at_call 43; (with_reducible refine (hE.out _).mono ?_); rintro e w1 ⟨rfl,hb⟩; replace hX:=hX.trans hb; replace eC:=hb.heap eC; clear Cs C_0 C_1 C_2 C_3 fC; have Cs:=lt_of_heap eC; have C_0:=cq0 eC rfl; have C_1:=cq1 eC rfl; have C_2:=cq2 eC rfl; have C_3:=cq3 eC rfl; have fC:=frozA eC; clear hb) | fail)
 have qC_0:=fun q:Bw w1 => q.h.cell C_0
 have qC_1:=fun q:Bw w1 => q.h.cell C_1
 have qC_2:=fun q:Bw w1 => q.h.cell C_2
 have qC_3:=fun q:Bw w1 => q.h.cell C_3
 refine region_bel (by kernel_rfl) (by kernel_rfl) ?_
 repeat (go_big_quiet_step (fail))
 refine wpQuiet_nil ?_
 rintro w2 ⟨q,rfl⟩
 go_wp2_with fail
 go_returns
 exact ⟨rfl,hX.trans q.h⟩
theorem genAt_ex (l:List Int) (n:Nat) (A:Option Addr) (c:Nat) (i:Nat) (hi:i ≤ 1000) (w:World) (h:Sl w 1 n A (ints64 l)) (hb:∀ v ∈ l,-9223372036854775808 ≤ v ∧ v ≤ 9223372036854775807) :
  Calls Tryz.prog 45 #[.slice A n c,.int .i64 i] w fun e w' => ∃ v:Int,e = .returned (.int .i64 v) ∧ w = w':=by
 have k0:decide ((i:Int) < 0) = false:=decide_eq_false (by omega)
 by_cases hlt:i < n
 ·obtain ⟨v,ev⟩:∃ v,l[i]? = some v:=⟨l[i]'(by have:=h.1; unfold ints64 at this; rw [List.length_map] at this; omega),List.getElem?_eq_getElem _⟩
  obtain ⟨g,off,rfl,hc⟩:=h.int ev hlt
  have k1:decide ((n:Int) ≤ (i:Int)) = false:=decide_eq_false (by omega)
  clear h hb
  go_enter Tryz.func45,Tryz.ntmps45
  go_wp2_with fail
  go_returns
  exact ⟨v,rfl,rfl⟩
 ·have k1:decide ((n:Int) ≤ (i:Int)) = true:=decide_eq_true (by omega)
  clear h hb
  go_enter Tryz.func45,Tryz.ntmps45
  go_wp2_with fail
  go_returns
  exact ⟨0,rfl,rfl⟩
theorem offset_ex (n c:Int) (n0:-9223372036854775808 ≤ n) (n1:n ≤ 9223372036854775807) (c0:-1000000 ≤ c) (c1:c ≤ 1000000) (w:World) :
  Calls Tryz.prog 46 #[.int .i64 n,.int .i64 c] w fun e w' => ∃ v:Int,e = .returned (.int .i64 v) ∧ c - 4 ≤ v ∧ v ≤ c + 4 ∧ w = w':=by
 have a0:0 ≤ (n.tdiv 3) % 9:=Int.emod_nonneg _ (by omega)
 have a1:(n.tdiv 3) % 9 < 9:=Int.emod_lt_of_pos _ (by omega)
 have hd:IntKind.i64.wrap (n.tdiv 3) = n.tdiv 3:=by
  rcases Int.le_total 0 n with h | h
  ·rw [Int.tdiv_eq_ediv_of_nonneg h]
   exact wrap_i64 _ (by omega) (by omega)
  ·have e:n.tdiv 3 = -(-n / 3):=by rw [← Int.tdiv_eq_ediv_of_nonneg (show 0 ≤ -n by omega),Int.neg_tdiv,Int.neg_neg]
   rw [e]
   exact wrap_i64 _ (by omega) (by omega)
 obtain ⟨D,eD⟩:∃ D,D = (n.tdiv 3) % 9:=⟨_,rfl⟩
 have hM:=hd_ (fun (x k:Int) (h0:1 ≤ k) (h1:k ≤ 4611686018427387903) (W:World) => mod_call x k W h0 h1)
 rw [← eD] at a0 a1
 have t1:IntKind.i64.wrap (c + D) = c + D:=wrap_i64 _ (by omega) (by omega)
 have t2:IntKind.i64.wrap (c + D - 4) = c + D - 4:=wrap_i64 _ (by omega) (by omega)
 have eD2:=eD.symm
 clear eD
 by_cases hz:n % 3 = 0
 ·have kz:(n % 3 == 0) = true:=beq_iff_eq.2 hz
  go_enter Tryz.func46,Tryz.ntmps46
  go_wp2_with (go_at_call 8; (with_reducible refine (hM.out _ _ (by decide) (by decide) _).mono ?_); rintro e w' ⟨rfl,rfl⟩)
  go_returns
  exact ⟨c,rfl,by omega,by omega,rfl⟩
 ·have kz:(n % 3 == 0) = false:=beq_eq_false_iff_ne.2 hz
  go_enter Tryz.func46,Tryz.ntmps46
  go_wp2_with (go_at_call 8; (with_reducible refine (hM.out _ _ (by decide) (by decide) _).mono ?_); rintro e w' ⟨rfl,rfl⟩)
  go_returns
  exact ⟨c + D - 4,rfl,by omega,by omega,rfl⟩
end Go.Proofs.YtepfoelgegljbaaGreatDoor
