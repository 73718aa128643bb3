/- Part I1. -/
import Derived.Test.YtepfoelgegljbaaGreatDoorA28
namespace Go.Proofs.YtepfoelgegljbaaGreatDoor
open Go.ChangeShapes Go.WideShapes Go.ChangeAt Go.RowKit Go.Deep
section
variable {H:Type} {enc:TypeId × Value → H} {P:Program}
theorem ints_of_trod {w:World} {base:Nat} {spare:Nat → Bool} {held:Bool} {t e:TypeId} {n:Nat} {k:IntKind} {fuel:Nat} {cs:List Value} {x:DataW H × List MemPlace}
  (ht:P.underlying t = some (.array n e)) (he:P.underlying e = some (.int k)) (hc:P.cellsOf e = 1) (hC:P.cellsOf t = n)
  (h:DataW.trod enc P w base spare held fuel t cs = some x) :
  ∃ zs:List Int,cs = zs.map (Value.int k) ∧ zs.length = n ∧ ∀ z ∈ zs,(Lit.int k z).wf = true:=by
 obtain ⟨xs,m,_,_,hlen,hxl,hi⟩:=DataW.trod_array ht h
 have key:∀ i,i < n → ∃ z,cs[i]? = some (Value.int k z) ∧ (Lit.int k z).wf = true:=by
  intro i him
  have h1:=hi i him
  rw [hc] at h1
  have hx:xs[i]? = some (xs[i]'(by omega)):=List.getElem?_eq_getElem (by omega)
  obtain ⟨z,hz,_,hw⟩:=DataW.trod_int he (h1.trans hx)
  refine ⟨z,?_,hw⟩
  have e0:cs[i]? = ((cs.drop (i * 1)).take 1)[0]?:=by simp [List.getElem?_drop]
  rw [e0,hz]; rfl
 refine ⟨cs.map intOf,?_,by simp; omega,?_⟩
 ·apply List.ext_getElem?
  intro i
  by_cases him:i < n
  ·obtain ⟨z,hz,_⟩:=key i him
   simp [hz,intOf]
  ·rw [List.getElem?_eq_none (by omega),List.getElem?_eq_none (by simp; omega)]
 ·intro z hz
  obtain ⟨v,hv,rfl⟩:=List.mem_map.1 hz
  obtain ⟨i,hil,hiv⟩:=List.getElem_of_mem hv
  obtain ⟨z',hz',hw⟩:=key i (by omega)
  rw [List.getElem?_eq_getElem hil,hiv] at hz'
  simp only [Option.some.injEq] at hz'
  subst hz'
  simpa [intOf] using hw
theorem open_pixel {w:World} {base:Nat} {spare:Nat → Bool} {held:Bool} {r:Reach} {b0:Nat} {t tc e:TypeId} {k:IntKind} {f0 f1 f2:Field} {v:Value} {d:DataW H} {p:List MemPlace}
  (ht:P.underlying t = some (.struct #[f0,f1,f2])) (e0:f0.type = tc) (e1:f1.type = e) (e2:f2.type = e) (o0:f0.offset = 0) (o1:f1.offset = 3) (o2:f2.offset = 4)
  (hc:P.underlying tc = some (.array 3 e)) (he:P.underlying e = some (.int k)) (hce:P.cellsOf e = 1) (hcc:P.cellsOf tc = 3) (hC:P.cellsOf t = 5)
  (hv:Value.okWide P w r b0 t v) (h:DataW.Trod enc P w base spare held t v d p) :
  ∃ x y z a f:Int,v = .agg #[.int k x,.int k y,.int k z,.int k a,.int k f] ∧ (Lit.int k x).wf = true ∧ (Lit.int k y).wf = true ∧ (Lit.int k z).wf = true ∧ (Lit.int k a).wf = true ∧ (Lit.int k f).wf = true:=by
 obtain ⟨⟨cs⟩,rfl,hsz⟩:=okWide_struct ht hv
 obtain ⟨fuel,hf⟩:=h
 obtain ⟨y0,y1,y2,n,_,hl,h0,h1,h2⟩:=trod_struct3 ht hf
 rw [e0,o0,hcc] at h0
 rw [e1,o1,hce] at h1
 rw [e2,o2,hce] at h2
 simp only [Value.cells] at hl h0 h1 h2
 rw [hC] at hl
 match cs,hl with
 | [c0,c1,c2,c3,c4],_ =>
  obtain ⟨zs,hz,hzl,hw⟩:=ints_of_trod hc he hce hcc h0
  obtain ⟨a,ha,_,wa⟩:=DataW.trod_int he h1
  obtain ⟨b,hb,_,wb⟩:=DataW.trod_int he h2
  match zs,hzl with
  | [x,y,z],_ =>
   simp at hz ha hb
   obtain ⟨rfl,rfl,rfl⟩:=hz
   subst ha hb
   exact ⟨x,y,z,a,b,rfl,hw x (by simp),hw y (by simp),hw z (by simp),wa,wb⟩
end
set_option linter.unusedVariables false
theorem evalF_ok (can:Rc) (l:List Img) (n mx:Int) (R:Rc) (X Y:Int) (hm:mx = 255 ∨ mx = 65535) (hS:SrcOk l mx) (F:Fo):∀ (f:Fr),F.ok n mx f.o.free → F.pos → f.ok mx → (evalF can l mx R X Y F f).ok mx ∧ (evalF can l mx R X Y F f).o = f.o ∧ (evalF can l mx R X Y F f).b = f.b:=by
 induction F with
 | nil => exact fun f _ _ h => ⟨h,rfl,rfl⟩
 | draw o r ih =>
  intro f hF hp h
  obtain ⟨k0,k1⟩:=mask_ok hm hS o X Y
  unfold evalF
  split
  ·have h1:(f.paint l mx X Y o (sAt l o X Y)).ok mx:=Fr.ok_paint hm h hF.2.1 (hS.px _ _ _) hp.1 k0 k1
   exact ih _ hF.2.2 hp.2 h1
  ·exact ih _ hF.2.2 hp.2 h
 | grp o k r ihk ihr =>
  intro f hF hp h
  obtain ⟨k0,k1⟩:=mask_ok hm hS o X Y
  unfold evalF
  split
  ·have hk:=ihk (f.push o) hF.2.2.1 hp.2.1 (Fr.ok_push (by omega) h o)
   have h1:(f.paint l mx X Y o (resF mx (evalF can l mx R X Y k (f.push o)).c (f.push o).b)).ok mx:=Fr.ok_paint hm h hF.2.1 (resF_ok hm (by rw [← hk.2.2]; exact hk.1.ac)) hp.1 k0 k1
   exact ihr _ hF.2.2.2 hp.2.2 h1
  ·exact ihr _ hF.2.2.2 hp.2.2 h
end Go.Proofs.YtepfoelgegljbaaGreatDoor
