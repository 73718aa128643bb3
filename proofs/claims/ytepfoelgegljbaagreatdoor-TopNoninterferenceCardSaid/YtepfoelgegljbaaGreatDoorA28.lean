/- Part A28. -/
import Derived.OrdersHeld
import Derived.Test.YtepfoelgegljbaaGreatDoorA26
namespace Go.Proofs.YtepfoelgegljbaaGreatDoor
open Go.RowKit
set_option linter.unusedVariables false
section
variable {P:Program} {ops:Array Oper} {Q:Exit → Act → World → Prop} {md:Region.Mode} {S:World → Prop}
def wpAnyC (P:Program) (md:Region.Mode) (ops:Array Oper) (Q:Exit → Act → World → Prop) (c:Nat) (S:World → Prop):Nat → Array Bool → Act → World → Prop
 | 0,listed,a,w => Region.ready md ops listed = [] ∧ Q .normal a w
 | f + 1,listed,a,w => (Region.ready md ops listed = [] → Q .normal a w) ∧ ∀ i ∈ Region.ready md ops listed,wpOp P ops Q i (fun a' w' => ((listed.setIfInBounds i true).getD c true = false → S w') ∧ wpAnyC P md ops Q c S f (listed.setIfInBounds i true) a' w') a w
theorem any_of_C {c:Nat}:∀ (f:Nat) (listed:Array Bool) (a:Act) (w:World),wpAnyC P md ops Q c S f listed a w → wpAny P md ops Q f listed a w
 | 0,_,_,_,h => h
 | f + 1,_,_,_,h => ⟨h.1,fun i hi => wpOp_mono (fun a' w' h' => any_of_C f _ a' w' h'.2) (h.2 i hi)⟩
theorem listed_stays {listed:Array Bool} {c i:Nat} (h:listed.getD c true = true):(listed.setIfInBounds i true).getD c true = true:=by
 by_cases hic:i = c
 ·subst hic
  simp [Array.getD]
 ·rw [getD_set_ne true hic]
  exact h
theorem C_of_any {c:Nat}:∀ (f:Nat) (listed:Array Bool) (a:Act) (w:World),listed.getD c true = true → wpAny P md ops Q f listed a w → wpAnyC P md ops Q c S f listed a w
 | 0,_,_,_,_,h => h
 | f + 1,listed,_,_,hc,h => ⟨h.1,fun i hi => wpOp_mono (fun a' w' h' => ⟨fun h0 => absurd h0 (by rw [listed_stays hc]; simp),C_of_any f _ a' w' (listed_stays hc) h'⟩) (h.2 i hi)⟩
theorem C_first {c i:Nat} {oi oc:Oper} {v:Value} (hi:ops[i]? = some oi) (hoc:ops[c]? = some oc) (hw:∃ e ∈ oc.after,Region.binds md e = true ∧ e.on = i) (hsel:∀ (j:Nat) (o:Oper) cs b,ops[j]? = some o → o.op ≠ .select cs b)
  (hQ:∀ p a w,Q (.panic p) (a.put oi.dst v) w → Q (.panic p) a w) :
  ∀ (fuel:Nat) (listed:Array Bool) (a:Act) (w:World),
   (∀ j oj,ops[j]? = some oj → j ≠ i → listed.getD j true = false → (∀ e ∈ oj.after,Region.binds md e = true → e.on ≠ i) → oi.apart ops oj = true) →
   i ∈ Region.ready md ops listed → listed.getD c true = false → YieldsIf P ops S oi v a → S w →
   wpAnyC P md ops Q c S fuel (listed.setIfInBounds i true) (a.put oi.dst v) w → wpAnyC P md ops Q c S (fuel + 1) listed a w:=by
 intro fuel
 induction fuel with
 | zero =>
  intro listed a w _ hr hcl hy hS H
  refine ⟨fun h => (by rw [h] at hr; cases hr),fun j hj => ?_⟩
  by_cases hji:j = i
  ·subst hji
   exact hy.wpOp hi hS ⟨fun _ => hS,H⟩
  ·have h0:=ready_mono hj hji
   rw [H.1] at h0
   cases h0
 | succ fuel ih =>
  intro listed a w hfree hr hcl hy hS H
  have hun:=(mem_ready.1 hr).1
  refine ⟨fun h => (by rw [h] at hr; cases hr),fun j hj => ?_⟩
  by_cases hji:j = i
  ·subst hji
   exact hy.wpOp hi hS ⟨fun _ => hS,H⟩
  ·obtain ⟨hjun,oj,hoj,hall⟩:=mem_ready.1 hj
   have hno:∀ e ∈ oj.after,Region.binds md e = true → e.on ≠ i:=fun e he hb heq => by
    have h1:=hall e he hb
    rw [heq,getD_both hun] at h1
    cases h1
   have hjc:j ≠ c:=by
    rintro rfl
    obtain ⟨e,he,hb,heq⟩:=hw
    obtain rfl:=Option.some.inj (hoj.symm.trans hoc)
    exact hno e he hb heq
   have h2:=wpOp_putIf hoj (hfree j oj hoj hji hjun hno) (fun cs b => hsel i oi cs b hi) (fun cs b => hsel j oj cs b hoj) hQ hy (H.2 j (ready_mono hj hji))
   have hic:i ≠ c:=by
    rintro rfl
    obtain ⟨e,he,hb,heq⟩:=hw
    obtain rfl:=Option.some.inj (hi.symm.trans hoc)
    obtain ⟨_,oi',hoi',hall'⟩:=mem_ready.1 hr
    obtain rfl:=Option.some.inj (hoi'.symm.trans hi)
    have h1:=hall' e he hb
    rw [heq,getD_both hun] at h1
    cases h1
   have hcl2:(listed.setIfInBounds j true).getD c true = false:=by rw [getD_set_ne true hjc]; exact hcl
   have hcl3:((listed.setIfInBounds i true).setIfInBounds j true).getD c true = false:=by rw [getD_set_ne true hjc,getD_set_ne true hic]; exact hcl
   refine wpOp_mono (fun a' w' h3 => ⟨fun _ => h3.2.1 hcl3,ih (listed.setIfInBounds j true) a' w' (fun k ok hk hki hku hnk => hfree k ok hk hki ?_ hnk) (ready_mono hr (Ne.symm hji)) hcl2 h3.1 (h3.2.1 hcl3) ?_⟩) h2
   ·by_cases hjk:j = k
    ·subst hjk
     exact hjun
    ·rwa [getD_set_ne true hjk] at hku
   ·rw [Array.setIfInBounds_comm _ _ hji]
    exact h3.2.2
theorem C_first0 {c i:Nat} {oi:Oper} {v:Value} (hi:ops[i]? = some oi) (hic:i ≠ c) (hsel:∀ (j:Nat) (o:Oper) cs b,ops[j]? = some o → o.op ≠ .select cs b)
  (hQ:∀ p a w,Q (.panic p) (a.put oi.dst v) w → Q (.panic p) a w) :
  ∀ (fuel:Nat) (listed:Array Bool) (a:Act) (w:World),
   (∀ j oj,ops[j]? = some oj → j ≠ i → listed.getD j true = false → (∀ e ∈ oj.after,Region.binds md e = true → e.on ≠ i) → oi.apart ops oj = true) →
   i ∈ Region.ready md ops listed → (listed.getD c true = false → S w) → YieldsIf P ops (fun _ => True) oi v a →
   wpAnyC P md ops Q c S fuel (listed.setIfInBounds i true) (a.put oi.dst v) w → wpAnyC P md ops Q c S (fuel + 1) listed a w:=by
 intro fuel
 induction fuel with
 | zero =>
  intro listed a w _ hr hS hy H
  refine ⟨fun h => (by rw [h] at hr; cases hr),fun j hj => ?_⟩
  by_cases hji:j = i
  ·subst hji
   exact hy.wpOp hi trivial ⟨fun h0 => hS (by rwa [getD_set_ne true hic] at h0),H⟩
  ·have h0:=ready_mono hj hji
   rw [H.1] at h0
   cases h0
 | succ fuel ih =>
  intro listed a w hfree hr hS hy H
  have hun:=(mem_ready.1 hr).1
  refine ⟨fun h => (by rw [h] at hr; cases hr),fun j hj => ?_⟩
  by_cases hji:j = i
  ·subst hji
   exact hy.wpOp hi trivial ⟨fun h0 => hS (by rwa [getD_set_ne true hic] at h0),H⟩
  ·obtain ⟨hjun,oj,hoj,hall⟩:=mem_ready.1 hj
   have hno:∀ e ∈ oj.after,Region.binds md e = true → e.on ≠ i:=fun e he hb heq => by
    have h1:=hall e he hb
    rw [heq,getD_both hun] at h1
    cases h1
   have h2:=wpOp_putIf hoj (hfree j oj hoj hji hjun hno) (fun cs b => hsel i oi cs b hi) (fun cs b => hsel j oj cs b hoj) hQ hy (H.2 j (ready_mono hj hji))
   have e:((listed.setIfInBounds i true).setIfInBounds j true).getD c true = (listed.setIfInBounds j true).getD c true:=by rw [Array.setIfInBounds_comm _ _ (Ne.symm hji),getD_set_ne true hic]
   refine wpOp_mono (fun a' w' h3 => ⟨fun h0 => h3.2.1 (e.trans h0),ih (listed.setIfInBounds j true) a' w' (fun k ok hk hki hku hnk => hfree k ok hk hki ?_ hnk) (ready_mono hr (Ne.symm hji)) (fun h0 => h3.2.1 (e.trans h0)) h3.1 ?_⟩) h2
   ·by_cases hjk:j = k
    ·subst hjk
     exact hjun
    ·rwa [getD_set_ne true hjk] at hku
   ·rw [Array.setIfInBounds_comm _ _ hji]
    exact h3.2.2
theorem C_take {c i:Nat} {oi:Oper} {v:Value} {fuel:Nat} {listed:Array Bool} {a:Act} {w:World} (hi:ops[i]? = some oi) (hs:Region.noSelect ops = true) (hf:Region.free md ops listed i = true) (hr:(Region.ready md ops listed).contains i = true)
  (hw:Region.waitsFor md ops c i = true) (hcl:listed.getD c true = false) (hQ:∀ p a w,Q (.panic p) (a.put oi.dst v) w → Q (.panic p) a w) (hS:S w) (hy:YieldsIf P ops S oi v a)
  (h:wpAnyC P md ops Q c S fuel (listed.setIfInBounds i true) (a.put oi.dst v) w):wpAnyC P md ops Q c S (fuel + 1) listed a w:=by
 obtain ⟨oc,hoc,hw⟩:=Region.waitsFor_spec hw
 exact C_first hi hoc hw (Region.noSelect_spec hs) hQ fuel listed a w (Region.free_spec hi hf) (by simpa using hr) hcl hy hS h
theorem C_takea {c i:Nat} {oi:Oper} {v:Value} {fuel:Nat} {listed:Array Bool} {a:Act} {w:World} (hi:ops[i]? = some oi) (hS:S w) (hy:YieldsIf P ops S oi v a) (h:wpAnyC P md ops Q c S fuel (listed.setIfInBounds i true) (a.put oi.dst v) w) (hs:Region.noSelect ops = true:=by kernel_rfl) (hf:Region.free md ops listed i = true:=by kernel_rfl) (hr:(Region.ready md ops listed).contains i = true:=by kernel_rfl) (hw:Region.waitsFor md ops c i = true:=by kernel_rfl) (hcl:listed.getD c true = false:=by kernel_rfl) (hQ:∀ p a w,Q (.panic p) (a.put oi.dst v) w → Q (.panic p) a w:=by exact fun _ _ _ h => h):wpAnyC P md ops Q c S (fuel + 1) listed a w:=C_take hi hs hf hr hw hcl hQ hS hy h
theorem C_take0 {c i:Nat} {oi:Oper} {v:Value} {fuel:Nat} {listed:Array Bool} {a:Act} {w:World} (hi:ops[i]? = some oi) (hs:Region.noSelect ops = true) (hf:Region.free md ops listed i = true) (hr:(Region.ready md ops listed).contains i = true)
  (hic:decide (i ≠ c) = true) (hQ:∀ p a w,Q (.panic p) (a.put oi.dst v) w → Q (.panic p) a w) (hS:S w) (hy:YieldsIf P ops (fun _ => True) oi v a)
  (h:wpAnyC P md ops Q c S fuel (listed.setIfInBounds i true) (a.put oi.dst v) w):wpAnyC P md ops Q c S (fuel + 1) listed a w :=
 C_first0 hi (of_decide_eq_true hic) (Region.noSelect_spec hs) hQ fuel listed a w (Region.free_spec hi hf) (by simpa using hr) (fun _ => hS) hy h
theorem C_take0a {c i:Nat} {oi:Oper} {v:Value} {fuel:Nat} {listed:Array Bool} {a:Act} {w:World} (hi:ops[i]? = some oi) (hS:S w) (hy:YieldsIf P ops (fun _ => True) oi v a) (h:wpAnyC P md ops Q c S fuel (listed.setIfInBounds i true) (a.put oi.dst v) w) (hs:Region.noSelect ops = true:=by kernel_rfl) (hf:Region.free md ops listed i = true:=by kernel_rfl) (hr:(Region.ready md ops listed).contains i = true:=by kernel_rfl) (hic:decide (i ≠ c) = true:=by kernel_rfl) (hQ:∀ p a w,Q (.panic p) (a.put oi.dst v) w → Q (.panic p) a w:=by exact fun _ _ _ h => h):wpAnyC P md ops Q c S (fuel + 1) listed a w:=C_take0 hi hs hf hr hic hQ hS hy h
theorem C_tail {c g:Nat} {l:List Oper} {listed:Array Bool} {a:Act} {w:World} (hl:l = ops.toList.drop c) (hg:l.length = g + 1) (hB:Region.seqB md ops (g + 1) c listed = true) (hc:decide (c < listed.size) = true) (h:wpList P ops Q l a w):wpAnyC P md ops Q c S (g + 1) listed a w:=by
 have h2:=wpAny_of_seq (md:=md) (Q':=Q) l c listed a w (fun j => by rw [hl,List.getElem?_drop,Array.getElem?_toList]) (by rw [hg]; exact hB) h
 rw [hg] at h2
 simp only [Region.seqB,Bool.and_eq_true,decide_eq_true_eq] at hB
 refine ⟨h2.1,fun i hi => ?_⟩
 obtain rfl:i = c:=by rw [hB.1] at hi; simpa using hi
 have hs:(listed.setIfInBounds i true).getD i true = true:=by simp [Array.getD]
 exact wpOp_mono (fun a' w' h' => ⟨fun h0 => absurd h0 (by rw [hs]; simp),C_of_any g _ a' w' hs h'⟩) (h2.2 i hi)
theorem C_step {c f:Nat} {o:Oper} {listed:Array Bool} {a:Act} {w:World} (hr:Region.ready md ops listed = [c]) (ho:ops[c]? = some o) (hc:decide (c < listed.size) = true) (hwant:Region.wanted o (yielded ops a.tmps) = true)
  (h:∀ K:Act → World → Prop,Hid (∀ a' w',wpAny P md ops Q f (listed.setIfInBounds c true) a' w' → K a' w') → o.wp P a w K Q):wpAnyC P md ops Q c S (f + 1) listed a w:=by
 refine ⟨fun h0 => (by rw [hr] at h0; cases h0),fun i hi => ?_⟩
 obtain rfl:i = c:=by rw [hr] at hi; simpa using hi
 have hs:(listed.setIfInBounds i true).getD i true = true:=by simp [Array.getD]
 unfold wpOp
 simp only [ho,hwant,if_true]
 exact .inl (h _ (hd_ fun a' w' h' => ⟨fun h0 => absurd h0 (by rw [hs]; simp),C_of_any f _ a' w' hs h'⟩))
theorem C_region {id:Nat} {a:Act} {w:World} (c:Nat) (S:World → Prop) (hm:P.follows .mixedOrders = true) (h:wpAnyC P .any ops Q c S ops.size (Array.replicate ops.size false) a w.drew):(Code.region id ops true).wp P Q a w :=
 wp_region_any hm (any_of_C _ _ _ _ h)
end
structure Fr.ok (m:Int) (f:Fr):Prop where
 ac:Ac.ok m f.c f.b
 fr:f.o.free = true → f.c.o = f.c.a
theorem beginC_ok {m:Int} {iso kn:Bool} {c:Ac} {b:Px} (hm:0 ≤ m) (h:Ac.ok m c b):Ac.ok m (beginA (beginC iso kn c b)) (beginC iso kn c b):=by
 obtain ⟨h,hf⟩:=h
 obtain ⟨x0,y0,z0,o0,xa,ya,za,oa,of,am,fm,⟨b1,b2,b3,b4,b5,b6,b7,b8⟩⟩:=h
 have a0:0 ≤ c.a:=Int.le_trans o0 oa
 have e0:0 ≤ b.a:=by omega
 unfold beginC
 cases iso
 ·cases kn
  ·exact ⟨⟨x0,y0,z0,Int.le_refl _,xa,ya,za,a0,Int.le_refl _,am,hm,⟨x0,y0,z0,xa,ya,za,Int.le_refl _,am⟩⟩,rfl⟩
  ·exact ⟨⟨b1,b2,b3,Int.le_refl _,b4,b5,b6,e0,Int.le_refl _,b8,hm,⟨b1,b2,b3,b4,b5,b6,b7,b8⟩⟩,hf⟩
 ·have z:=Int.le_refl (0:Int)
  exact ⟨⟨z,z,z,z,z,z,z,z,z,hm,hm,⟨z,z,z,z,z,z,z,hm⟩⟩,rfl⟩
theorem Fr.ok_push {m:Int} {f:Fr} (hm:0 ≤ m) (h:f.ok m) (o:Opr):(f.push o).ok m:=by
 refine ⟨beginC_ok hm h.ac,fun hf => ?_⟩
 have hi:o.iso = true:=by
  have:(o.iso && !o.kn) = true:=hf
  simp at this
  exact this.1
 show (beginA (beginC o.iso f.o.kn f.c f.b)).o = (beginA (beginC o.iso f.o.kn f.c f.b)).a
 unfold beginC
 rw [hi]
 rfl
theorem opIs_int {o:Int} (h:opIs o = true):1 ≤ o ∧ o ≤ 12:=by
 unfold opIs at h
 simp at h
 omega
theorem stepC_of {n mx:Int} {g o:Opr} (h:o.ok n mx g.free):StepC g.kn o.op o.md:=by
 obtain ⟨h1,h2⟩:=opIs_int h.op
 obtain ⟨h3,h4⟩:=opIs_int h.md
 refine ⟨h1,h2,h3,h4,fun hk => ?_⟩
 rcases h.fr with h | h
 ·exact h
 ·simp [Opr.free,hk] at h
theorem Fr.ok_step {n mx:Int} {f:Fr} {o:Opr} (ho:o.ok n mx f.o.free) (h:f.ok mx):o.op = 4 ∨ f.c.o = f.c.a:=ho.fr.imp id h.fr
theorem Fr.ok_paint {l:List Img} {n mx X Y:Int} {f:Fr} {o:Opr} {p:Px} (hm:mx = 255 ∨ mx = 65535) (h:f.ok mx) (ho:o.ok n mx f.o.free) (hp:Px.ok mx p) (hj:0 ≤ o.oc) (k0:0 ≤ kAt l mx o X Y) (k1:kAt l mx o X Y ≤ mx):(f.paint l mx X Y o p).ok mx:=by
 have hg:=stepF_good hm (stepC_of ho) (both_ok hm hp k0 k1 hj ho.oc) h.ac (Fr.ok_step ho h)
 refine ⟨hg.1,fun hf => hg.2.1 ?_ (h.fr hf)⟩
 have:(f.o.iso && !f.o.kn) = true:=hf
 simp at this
 exact this.2
structure SrcOk (l:List Img) (mx:Int):Prop where
 px:∀ i X Y,Px.ok mx (atF (imAt l i) X Y)
 oc:True
theorem mask_ok {l:List Img} {mx:Int} (hm:mx = 255 ∨ mx = 65535) (hS:SrcOk l mx) (o:Opr) (X Y:Int):0 ≤ kAt l mx o X Y ∧ kAt l mx o X Y ≤ mx:=by
 unfold kAt
 split
 ·omega
 ·have h:=hS.px (o.ms - 1) (X - o.mx) (Y - o.my)
  have h1:=h.x0
  have h2:=h.xa
  have h3:=h.af
  have h4:=h.fm
  omega
def Fo.pos:Fo → Prop
 | .nil => True
 | .draw o r => 0 ≤ o.oc ∧ r.pos
 | .grp o k r => 0 ≤ o.oc ∧ k.pos ∧ r.pos
theorem baseF_ok {m:Int} (hm:0 ≤ m):baseF.ok m:=by
 have z:=Int.le_refl (0:Int)
 exact ⟨⟨⟨z,z,z,z,z,z,z,z,z,hm,hm,⟨z,z,z,z,z,z,z,hm⟩⟩,rfl⟩,fun _ => rfl⟩
noncomputable def evalZ (can:Rc) (l:List Img) (mx:Int) (R:Rc) (X Y:Int):List Fo → List Fr → Fr
 | [],_ => baseF
 | _,[] => baseF
 | [F],f :: _ => evalF can l mx R X Y F f
 | F :: _ :: _,[f] => evalF can l mx R X Y F f
 | F :: G :: Fs,f :: g :: fs => evalZ can l mx R X Y (G :: Fs) (g.paint l mx X Y f.o (resF mx (evalF can l mx R X Y F f).c f.b) :: fs)
section
variable (can:Rc) (l:List Img) (mx:Int) (R:Rc) (X Y:Int)
theorem evalZ_draw (o:Opr) (r:Fo) (Fs:List Fo) (f:Fr) (fs:List Fr):evalZ can l mx R X Y (.draw o r :: Fs) (f :: fs) = evalZ can l mx R X Y (r :: Fs) ((if hits (dBox can l o) R then f.paint l mx X Y o (sAt l o X Y) else f) :: fs):=by
 cases Fs with
 | nil => rfl
 | cons G Fs =>
  cases fs with
  | nil => rfl
  | cons g fs =>
   simp only [evalZ,evalF]
   split <;> rfl
theorem evalZ_in (o:Opr) (k r:Fo) (Fs:List Fo) (f:Fr) (fs:List Fr) (h:hits (gBox can l o k) R = true):evalZ can l mx R X Y (.grp o k r :: Fs) (f :: fs) = evalZ can l mx R X Y (k :: r :: Fs) (f.push o :: f :: fs):=by
 cases Fs with
 | nil => simp only [evalZ,evalF,h,if_true]; rfl
 | cons G Fs =>
  cases fs with
  | nil => simp only [evalZ,evalF,h,if_true]; rfl
  | cons g fs => simp only [evalZ,evalF,h,if_true]; rfl
theorem evalZ_skip (o:Opr) (k r:Fo) (Fs:List Fo) (f:Fr) (fs:List Fr) (h:hits (gBox can l o k) R = false):evalZ can l mx R X Y (.grp o k r :: Fs) (f :: fs) = evalZ can l mx R X Y (r :: Fs) (f :: fs):=by
 cases Fs with
 | nil => simp only [evalZ,evalF,h,Bool.false_eq_true,if_false]
 | cons G Fs =>
  cases fs with
  | nil => simp only [evalZ,evalF,h,Bool.false_eq_true,if_false]
  | cons g fs => simp only [evalZ,evalF,h,Bool.false_eq_true,if_false]
theorem evalZ_pop (G:Fo) (Fs:List Fo) (f g:Fr) (fs:List Fr):evalZ can l mx R X Y (.nil :: G :: Fs) (f :: g :: fs) = evalZ can l mx R X Y (G :: Fs) (g.paint l mx X Y f.o (resF mx f.c f.b) :: fs):=rfl
end
end Go.Proofs.YtepfoelgegljbaaGreatDoor
