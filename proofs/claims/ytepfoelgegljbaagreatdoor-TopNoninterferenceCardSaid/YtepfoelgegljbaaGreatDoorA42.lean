/- Part A42. -/
import Derived.Deep.Slices
import Derived.Deep.Fields
import Derived.ChangeArms
import Derived.Test.YtepfoelgegljbaaGreatDoorA39
import Derived.Test.YtepfoelgegljbaaGreatDoorA41
namespace Go.Proofs.YtepfoelgegljbaaGreatDoor
set_option maxRecDepth 100000
open Go.ChangeShapes Go.WideShapes Go.RowKit Go.Deep
set_option linter.unusedVariables false
theorem sl_of {α:Type} {f:α → List Value} {k:Nat} (hk:∀ a,(f a).length = k) (k0:0 < k) {W:World} {base:Nat} {a:Addr} {len:Nat} {R:α → Prop} (h:∀ i,i < len → ∃ p:α,W.cells? base (a.add (i * k)) k = some (f p) ∧ R p) :
  ∃ l:List α,l.length = len ∧ Sl W k len (some a) (l.flatMap f) ∧ ∀ p ∈ l,R p:=by
 refine ⟨List.ofFn fun i:Fin len => Classical.choose (h i.1 i.2),by simp,⟨by rw [flat_len hk]; simp,fun hn => ?_⟩,fun p hp => ?_⟩
 ·obtain ⟨g,off,spot⟩:=a
  have h0:=(Classical.choose_spec (h 0 hn)).1
  obtain ⟨-,hl,hc⟩:=World.cells?_some h0
  have hsp:spot = none:=by
   have h1:=hc 0 k0
   have h2:((⟨g,off,spot⟩:Addr).add (0 * k)).add 0 = ⟨g,off,spot⟩:=by rw [Nat.zero_mul]; rfl
   rw [h2,List.getElem?_eq_getElem (by omega)] at h1
   cases spot with
   | none => rfl
   | some q =>
    unfold World.cell? at h1
    split at h1
    ·simp at h1
    ·cases h1
  subst hsp
  refine ⟨g,off,rfl,fun j u hj => ?_⟩
  have hjl:j < len * k:=by have:=(List.getElem?_eq_some_iff.1 hj).1; rw [flat_len hk] at this; simpa using this
  obtain ⟨i,r,hr,rfl⟩:∃ i r,r < k ∧ j = i * k + r:=⟨j / k,j % k,Nat.mod_lt _ k0,by rw [Nat.mul_comm]; exact (Nat.div_add_mod j k).symm⟩
  have hi:i < len:=by
   rcases Nat.lt_or_ge i len with h | h
   ·exact h
   ·have:=Nat.mul_le_mul_right k h
    omega
  obtain ⟨-,hl,hc⟩:=World.cells?_some (Classical.choose_spec (h i hi)).1
  rw [flat_get hk _ i r (Classical.choose (h i hi)) (by rw [List.getElem?_ofFn]; simp [hi]) hr] at hj
  have h1:=hc r hr
  rw [hj,Addr.add_mid,Addr.add_mid,Nat.add_assoc] at h1
  exact h1
 ·obtain ⟨i,rfl⟩:=List.mem_ofFn.1 hp
  exact (Classical.choose_spec (h i.1 i.2)).2
theorem flat_ints (l:List Int):l.flatMap (fun v:Int => [Value.int .i64 v]) = ints64 l:=by
 unfold ints64
 induction l with
 | nil => rfl
 | cons v r ih =>
  rw [List.flatMap_cons,List.map_cons]
  exact congrArg (Value.int .i64 v :: ·) ih
theorem wf_inR {n:Int} (h:(Lit.int .i64 n).wf = true):inR n:=bounds_i64 h
section
variable {H:Type} {enc:TypeId × Value → H} {W:World} {base:Nat} {spare:Nat → Bool} {held:Bool}
theorem int_open {t:TypeId} (ht:Tryz.prog.underlying t = some (.int .i64)) {fuel:Nat} {cs:List Value} {x:DataW H × List MemPlace} (h:DataW.trod enc Tryz.prog W base spare held fuel t cs = some x):∃ n,cs = [.int .i64 n] ∧ inR n:=by
 obtain ⟨n,e,-,hw⟩:=DataW.trod_int ht h
 exact ⟨n,e,wf_inR hw⟩
theorem fld {fs:Array Field} {m:Nat} {cs:List Value} {xs:List (DataW H × List MemPlace)} (hi:∀ (i:Nat) (f:Field),fs[i]? = some f → DataW.trod enc Tryz.prog W base spare held m f.type ((cs.drop f.offset).take (Tryz.prog.cellsOf f.type)) = xs[i]?) (i:Nat) {ty:TypeId} {o k:Nat}
  (hf:(fs[i]?).map (fun f => (f.type,f.offset)) = some (ty,o)) (hk:Tryz.prog.cellsOf ty = k):DataW.trod enc Tryz.prog W base spare held m ty ((cs.drop o).take k) = xs[i]?:=by
 obtain ⟨f,h1,h2⟩:=Option.map_eq_some_iff.1 hf
 have g:=hi i f h1
 simp only [Prod.mk.injEq] at h2
 rw [h2.1,h2.2,hk] at g
 exact g
theorem list_open {α:Type} {f:α → List Value} {k:Nat} (hk:∀ a,(f a).length = k) (k0:0 < k) {R:α → Prop} {t e:TypeId} (ht:Tryz.prog.underlying t = some (.slice e)) (hc:Tryz.prog.cellsOf e = k)
  (hel:∀ (n:Nat) (cs:List Value) (y:DataW H × List MemPlace),DataW.trod enc Tryz.prog W base spare held n e cs = some y → ∃ p:α,cs = f p ∧ R p) {fuel:Nat} {cs:List Value} {x:DataW H × List MemPlace} (h:DataW.trod enc Tryz.prog W base spare held fuel t cs = some x) :
  ∃ (A:Option Addr) (n c:Nat) (l:List α),cs = [.slice A n c] ∧ l.length = n ∧ Sl W k n A (l.flatMap f) ∧ ∀ p ∈ l,R p:=by
 rcases open_slice ht h with ⟨rfl,-⟩ | ⟨a,len,cap,m,n,D,Pl,rfl,hb,hl,hm,hmm,-,hi⟩
 ·exact ⟨none,0,0,[],rfl,rfl,⟨by simp,fun h => absurd h (Nat.lt_irrefl 0)⟩,by simp⟩
 ·have hle:len ≤ m:=by rw [hmm]; split <;> omega
  rw [hc] at hi
  obtain ⟨l,h1,h2,h3⟩:=sl_of hk k0 (W:=W) (base:=base) (a:=a) (len:=len) (R:=R) (fun i hlt => by
   obtain ⟨cs',e1,e2⟩:=hi i (by omega)
   obtain ⟨p,rfl,hp⟩:=hel _ _ _ e2
   exact ⟨p,e1,hp⟩)
  exact ⟨some a,len,cap,l,rfl,h1,h2,h3⟩
theorem q5_open {fuel:Nat} {cs:List Value} {x:DataW H × List MemPlace} (h:DataW.trod enc Tryz.prog W base spare held fuel 95 cs = some x):∃ q:Q5,cs = q.cs ∧ q.ok:=by
 obtain ⟨xs,m,-,-,hl,hxl,hi⟩:=DataW.trod_array (n:=5) (e:=3) Tryz.underlying95 h
 rw [show Tryz.prog.cellsOf 95 = 5 by kernel_rfl] at hl
 rw [show Tryz.prog.cellsOf 3 = 1 by kernel_rfl] at hi
 match cs,hl with
 | [c0,c1,c2,c3,c4],_ =>
  match xs,hxl with
  | [y0,y1,y2,y3,y4],_ =>
   have g0:=hi 0 (by decide)
   have g1:=hi 1 (by decide)
   have g2:=hi 2 (by decide)
   have g3:=hi 3 (by decide)
   have g4:=hi 4 (by decide)
   obtain ⟨a,ha,ra⟩:=int_open Tryz.underlying3 (show DataW.trod enc Tryz.prog W base spare held m 3 [c0] = some y0 from g0)
   obtain ⟨b,hb,rb⟩:=int_open Tryz.underlying3 (show DataW.trod enc Tryz.prog W base spare held m 3 [c1] = some y1 from g1)
   obtain ⟨c,hc,rc⟩:=int_open Tryz.underlying3 (show DataW.trod enc Tryz.prog W base spare held m 3 [c2] = some y2 from g2)
   obtain ⟨d,hd,rd⟩:=int_open Tryz.underlying3 (show DataW.trod enc Tryz.prog W base spare held m 3 [c3] = some y3 from g3)
   obtain ⟨e,he,re⟩:=int_open Tryz.underlying3 (show DataW.trod enc Tryz.prog W base spare held m 3 [c4] = some y4 from g4)
   cases ha
   cases hb
   cases hc
   cases hd
   cases he
   exact ⟨⟨a,b,c,d,e⟩,rfl,ra,rb,rc,rd,re⟩
theorem raw_open {fuel:Nat} {cs:List Value} {x:DataW H × List MemPlace} (h:DataW.trod enc Tryz.prog W base spare held fuel 83 cs = some x):∃ d:RawD,cs = d.cs ∧ d.ok:=by
 obtain ⟨xs,m,-,-,hl,hxl,hi⟩:=DataW.trod_struct Tryz.underlying83 h
 rw [show Tryz.prog.cellsOf 83 = 11 by kernel_rfl] at hl
 match cs,hl with
 | [c0,c1,c2,c3,c4,c5,c6,c7,c8,c9,c10],_ =>
  match xs,hxl with
  | [y0,y1,y2,y3,y4,y5,y6,y7,y8,y9,y10],_ =>
   obtain ⟨a0,e0,r0⟩:=int_open Tryz.underlying3 (show DataW.trod enc Tryz.prog W base spare held m 3 [c0] = some y0 from fld hi 0 (o:=0) (k:=1) rfl (by kernel_rfl))
   obtain ⟨a1,e1,r1⟩:=int_open Tryz.underlying3 (show DataW.trod enc Tryz.prog W base spare held m 3 [c1] = some y1 from fld hi 1 (o:=1) (k:=1) rfl (by kernel_rfl))
   obtain ⟨a2,e2,r2⟩:=int_open Tryz.underlying3 (show DataW.trod enc Tryz.prog W base spare held m 3 [c2] = some y2 from fld hi 2 (o:=2) (k:=1) rfl (by kernel_rfl))
   obtain ⟨a3,e3,r3⟩:=int_open Tryz.underlying3 (show DataW.trod enc Tryz.prog W base spare held m 3 [c3] = some y3 from fld hi 3 (o:=3) (k:=1) rfl (by kernel_rfl))
   obtain ⟨a4,e4,r4⟩:=int_open Tryz.underlying3 (show DataW.trod enc Tryz.prog W base spare held m 3 [c4] = some y4 from fld hi 4 (o:=4) (k:=1) rfl (by kernel_rfl))
   obtain ⟨a5,e5,r5⟩:=int_open Tryz.underlying3 (show DataW.trod enc Tryz.prog W base spare held m 3 [c5] = some y5 from fld hi 5 (o:=5) (k:=1) rfl (by kernel_rfl))
   obtain ⟨a6,e6,r6⟩:=int_open Tryz.underlying3 (show DataW.trod enc Tryz.prog W base spare held m 3 [c6] = some y6 from fld hi 6 (o:=6) (k:=1) rfl (by kernel_rfl))
   obtain ⟨a7,e7,r7⟩:=int_open Tryz.underlying3 (show DataW.trod enc Tryz.prog W base spare held m 3 [c7] = some y7 from fld hi 7 (o:=7) (k:=1) rfl (by kernel_rfl))
   obtain ⟨a8,e8,r8⟩:=int_open Tryz.underlying3 (show DataW.trod enc Tryz.prog W base spare held m 3 [c8] = some y8 from fld hi 8 (o:=8) (k:=1) rfl (by kernel_rfl))
   obtain ⟨a9,e9,r9⟩:=int_open Tryz.underlying3 (show DataW.trod enc Tryz.prog W base spare held m 3 [c9] = some y9 from fld hi 9 (o:=9) (k:=1) rfl (by kernel_rfl))
   obtain ⟨a10,e10,r10⟩:=int_open Tryz.underlying3 (show DataW.trod enc Tryz.prog W base spare held m 3 [c10] = some y10 from fld hi 10 (o:=10) (k:=1) rfl (by kernel_rfl))
   cases e0
   cases e1
   cases e2
   cases e3
   cases e4
   cases e5
   cases e6
   cases e7
   cases e8
   cases e9
   cases e10
   exact ⟨⟨a0,a1,a2,a3,a4,a5,a6,a7,a8,a9,a10⟩,rfl,r0,r1,r2,r3,r4,r5,r6,r7,r8,r9,r10⟩
theorem row_open {fuel:Nat} {cs:List Value} {x:DataW H × List MemPlace} (h:DataW.trod enc Tryz.prog W base spare held fuel 64 cs = some x):∃ (mood:Int) (A:Option Addr) (n c:Nat) (l:List Q5),cs = [.int .i64 mood,.slice A n c] ∧ l.length = n ∧ Sl W 5 n A (q5s l) ∧ (∀ q ∈ l,q.ok):=by
 obtain ⟨xs,m,-,-,hl,hxl,hi⟩:=DataW.trod_struct Tryz.underlying64 h
 rw [show Tryz.prog.cellsOf 64 = 2 by kernel_rfl] at hl
 match cs,hl with
 | [c0,c1],_ =>
  match xs,hxl with
  | [y0,y1],_ =>
   obtain ⟨a0,e0,r0⟩:=int_open Tryz.underlying3 (show DataW.trod enc Tryz.prog W base spare held m 3 [c0] = some y0 from fld hi 0 (o:=0) (k:=1) rfl (by kernel_rfl))
   obtain ⟨A,n,c,l,e1,h1,h2,h3⟩:=list_open (f:=Q5.cs) (fun _ => rfl) (by decide) (R:=Q5.ok) Tryz.underlying62 (show Tryz.prog.cellsOf 95 = 5 by kernel_rfl) (fun n cs y h => q5_open h) (show DataW.trod enc Tryz.prog W base spare held m 62 [c1] = some y1 from fld hi 1 (o:=1) (k:=1) rfl (by kernel_rfl))
   cases e0
   cases e1
   exact ⟨a0,A,n,c,l,rfl,h1,h2,h3⟩
theorem pic_open {fuel:Nat} {cs:List Value} {x:DataW H × List MemPlace} (h:DataW.trod enc Tryz.prog W base spare held fuel 66 cs = some x):∃ d:PicD,cs = d.cs ∧ d.In W:=by
 obtain ⟨xs,m,-,-,hl,hxl,hi⟩:=DataW.trod_struct Tryz.underlying66 h
 rw [show Tryz.prog.cellsOf 66 = 5 by kernel_rfl] at hl
 match cs,hl with
 | [c0,c1,c2,c3,c4],_ =>
  match xs,hxl with
  | [y0,y1,y2,y3],_ =>
   obtain ⟨a0,e0,r0⟩:=int_open Tryz.underlying3 (show DataW.trod enc Tryz.prog W base spare held m 3 [c0] = some y0 from fld hi 0 (o:=0) (k:=1) rfl (by kernel_rfl))
   obtain ⟨a1,e1,r1⟩:=int_open Tryz.underlying3 (show DataW.trod enc Tryz.prog W base spare held m 3 [c1] = some y1 from fld hi 1 (o:=1) (k:=1) rfl (by kernel_rfl))
   obtain ⟨a2,e2,r2⟩:=int_open Tryz.underlying3 (show DataW.trod enc Tryz.prog W base spare held m 3 [c2] = some y2 from fld hi 2 (o:=2) (k:=1) rfl (by kernel_rfl))
   obtain ⟨mood,A,n,c,l,e3,h1,h2,h3⟩:=row_open (show DataW.trod enc Tryz.prog W base spare held m 64 [c3,c4] = some y3 from fld hi 3 (o:=3) (k:=2) rfl (by kernel_rfl))
   cases e0
   cases e1
   cases e2
   cases e3
   exact ⟨⟨a0,a1,a2,mood,A,n,c,l⟩,rfl,r0,h2,h1,h3⟩
theorem scene_open {r:Reach} {b0:Nat} {v:Value} {d:DataW H} {p:List MemPlace} (hv:Value.okWide Tryz.prog W r b0 26 v) (h:DataW.Trod enc Tryz.prog W base spare held 26 v d p):∃ D:SceneD,v = D.v ∧ D.In W:=by
 obtain ⟨cs,rfl,hsz⟩:=okWide_struct Tryz.underlying26 hv
 rw [show Tryz.prog.cellsOf 26 = 10 by kernel_rfl] at hsz
 obtain ⟨l⟩:=cs
 obtain ⟨fuel,hf⟩:=h
 obtain ⟨xs,m,-,-,-,hxl,hi⟩:=DataW.trod_struct Tryz.underlying26 hf
 match l,hsz with
 | [c0,c1,c2,c3,c4,c5,c6,c7,c8,c9],_ =>
  match xs,hxl with
  | [y0,y1,y2,y3,y4,y5,y6,y7,y8,y9],_ =>
   obtain ⟨a0,e0,r0⟩:=int_open Tryz.underlying3 (show DataW.trod enc Tryz.prog W base spare held m 3 [c0] = some y0 from fld hi 0 (o:=0) (k:=1) rfl (by kernel_rfl))
   obtain ⟨a1,e1,r1⟩:=int_open Tryz.underlying3 (show DataW.trod enc Tryz.prog W base spare held m 3 [c1] = some y1 from fld hi 1 (o:=1) (k:=1) rfl (by kernel_rfl))
   obtain ⟨a2,e2,r2⟩:=int_open Tryz.underlying3 (show DataW.trod enc Tryz.prog W base spare held m 3 [c2] = some y2 from fld hi 2 (o:=2) (k:=1) rfl (by kernel_rfl))
   obtain ⟨a3,e3,r3⟩:=int_open Tryz.underlying3 (show DataW.trod enc Tryz.prog W base spare held m 3 [c3] = some y3 from fld hi 3 (o:=3) (k:=1) rfl (by kernel_rfl))
   obtain ⟨a4,e4,r4⟩:=int_open Tryz.underlying3 (show DataW.trod enc Tryz.prog W base spare held m 3 [c4] = some y4 from fld hi 4 (o:=4) (k:=1) rfl (by kernel_rfl))
   obtain ⟨a5,e5,r5⟩:=int_open Tryz.underlying3 (show DataW.trod enc Tryz.prog W base spare held m 3 [c5] = some y5 from fld hi 5 (o:=5) (k:=1) rfl (by kernel_rfl))
   obtain ⟨a6,e6,r6⟩:=int_open Tryz.underlying3 (show DataW.trod enc Tryz.prog W base spare held m 3 [c6] = some y6 from fld hi 6 (o:=6) (k:=1) rfl (by kernel_rfl))
   obtain ⟨A7,n7,k7,l7,e7,h7,s7,q7⟩:=list_open (f:=(fun v:Int => [Value.int .i64 v])) (fun _ => rfl) (by decide) (R:=inR) Tryz.underlying22 (show Tryz.prog.cellsOf 3 = 1 by kernel_rfl) (fun n cs y h => int_open Tryz.underlying3 h) (show DataW.trod enc Tryz.prog W base spare held m 22 [c7] = some y7 from fld hi 7 (o:=7) (k:=1) rfl (by kernel_rfl))
   obtain ⟨A8,n8,k8,l8,e8,h8,s8,q8⟩:=list_open (f:=PicD.cs) (fun _ => rfl) (by decide) (R:=(PicD.In W)) Tryz.underlying23 (show Tryz.prog.cellsOf 66 = 5 by kernel_rfl) (fun n cs y h => pic_open h) (show DataW.trod enc Tryz.prog W base spare held m 23 [c8] = some y8 from fld hi 8 (o:=8) (k:=1) rfl (by kernel_rfl))
   obtain ⟨A9,n9,k9,l9,e9,h9,s9,q9⟩:=list_open (f:=RawD.cs) (fun _ => rfl) (by decide) (R:=RawD.ok) Tryz.underlying24 (show Tryz.prog.cellsOf 83 = 11 by kernel_rfl) (fun n cs y h => raw_open h) (show DataW.trod enc Tryz.prog W base spare held m 24 [c9] = some y9 from fld hi 9 (o:=9) (k:=1) rfl (by kernel_rfl))
   cases e0
   cases e1
   cases e2
   cases e3
   cases e4
   cases e5
   cases e6
   cases e7
   cases e8
   cases e9
   refine ⟨⟨a0,a1,a2,a3,a4,a5,a6,A7,n7,k7,l7,A8,n8,k8,l8,A9,n9,k9,l9⟩,rfl,?_,fun v hv => q7 v hv,s8,h8,q8,s9,h9,q9⟩
   rw [← flat_ints]
   exact s7
end
theorem z_emp:zRc.emp = true:=by decide
theorem clean_emp (r:Rc):r.clean.emp = r.emp:=by
 unfold Rc.clean
 by_cases h:r.emp = true
 ·rw [if_pos h,h]
  exact z_emp
 ·rw [if_neg h]
theorem clean_of {r:Rc} (h:r.emp = false):r.clean = r:=by
 unfold Rc.clean
 rw [if_neg (by rw [h]; decide)]
theorem inter_def {a c:Rc} (h1:a.emp = false) (h2:c.emp = false):a.inter c = Rc.clean ⟨max a.x c.x,max a.y c.y,min a.u c.u,min a.v c.v⟩:=by
 unfold Rc.inter
 rw [if_neg (by rw [h1,h2]; decide)]
theorem emp_inter_left {a c:Rc} (h:a.emp = true):(a.inter c).emp = true:=by
 unfold Rc.inter
 rw [if_pos (by rw [h]; rfl)]
 exact z_emp
def gOf (kn:Bool) (o:Opr):Opr:=⟨2,0,0,0,o.ms,o.mx,o.my,o.oc,o.op,o.md,true,kn⟩
def dOf (m:Int) (o:Opr):Opr:=⟨1,o.im,o.x,o.y,0,0,0,m,4,1,false,false⟩
def repL (m:Int) (kn:Bool):List Opr → Nat → List Opr
 | [],_ => []
 | o :: r,0 => if o.k = 1 then gOf kn o :: dOf m o :: popO :: r else o :: r
 | o :: r,n + 1 => o :: repL m kn r n
theorem repL_left (m:Int) (kn:Bool) (a b:List Opr):∀ n,n < a.length → repL m kn (a ++ b) n = repL m kn a n ++ b:=by
 induction a with
 | nil => intro n h; simp at h
 | cons o a ih =>
  intro n h
  cases n with
  | zero =>
   show (if o.k = 1 then gOf kn o :: dOf m o :: popO :: (a ++ b) else o :: (a ++ b)) = (if o.k = 1 then gOf kn o :: dOf m o :: popO :: a else o :: a) ++ b
   split <;> simp
  | succ n =>
   simp only [List.length_cons] at h
   show o :: repL m kn (a ++ b) n = (o :: repL m kn a n) ++ b
   rw [ih n (by omega),List.cons_append]
theorem repL_right (m:Int) (kn:Bool) (a b:List Opr):∀ n,a.length ≤ n → repL m kn (a ++ b) n = a ++ repL m kn b (n - a.length):=by
 induction a with
 | nil => intro n h; simp
 | cons o a ih =>
  intro n h
  cases n with
  | zero => simp at h
  | succ n =>
   simp only [List.length_cons] at h
   show o :: repL m kn (a ++ b) n = _
   rw [ih n (by omega),List.cons_append]
   simp
abbrev inT (can R:Rc) (j i:Nat):Prop:=R.x ≤ can.x + i ∧ can.x + i < R.u ∧ R.y ≤ can.y + j ∧ can.y + j < R.v
theorem fold_eq {can can2:Rc} {l l2:List Img} {mx mx2:Int} {F G:Fo} (tr:Rc → Rc) (j i:Nat) (Rs:List Rc)
  (h:∀ R ∈ Rs,(inT can2 (tr R) j i ↔ inT can R j i) ∧ (inT can R j i → ptF can2 l2 mx2 (tr R) G (can2.x + i) (can2.y + j) = ptF can l mx R F (can.x + i) (can.y + j))) :
  ∀ g g2:Nat → Nat → Px,g2 j i = g j i → (Rs.map tr).foldl (tileW can2 l2 mx2 G) g2 j i = Rs.foldl (tileW can l mx F) g j i:=by
 induction Rs with
 | nil => exact fun g g2 e => e
 | cons R Rs ih =>
  intro g g2 e
  rw [List.map_cons,List.foldl_cons,List.foldl_cons]
  refine ih (fun R hR => h R (List.mem_cons_of_mem _ hR)) _ _ ?_
  obtain ⟨h1,h2⟩:=h R (List.mem_cons_self ..)
  unfold tileW
  by_cases hi:inT can R j i
  ·rw [if_pos hi,if_pos (h1.2 hi),h2 hi]
  ·rw [if_neg hi,if_neg fun k => hi (h1.1 k),e]
theorem tls_in {s:Scr} (hm:s.Sm) (ho:orderOk s.ord s.nt) {R:Rc} (hR:R ∈ s.tls):s.can.x ≤ R.x ∧ R.x < R.u ∧ R.u ≤ s.can.u ∧ s.can.y ≤ R.y ∧ R.y < R.v ∧ R.v ≤ s.can.v:=by
 obtain ⟨nt1,nt2,nt3⟩:=sm_nt hm
 unfold Scr.tls at hR
 obtain ⟨k,hk,rfl⟩:=List.mem_map.1 hR
 obtain ⟨i,hi⟩:=List.mem_iff_getElem?.1 hk
 have hkb:=orderF_bd ho hi
 exact tRect_in (sm_cnt hm) hkb.1 (by rw [← nt1]; exact hkb.2)
theorem vb_ord {s:Scr} {F:Fo} (hV:s.Vb F):orderOk s.ord s.nt:=by
 have h:=hV.fr
 unfold frameE at h
 split at h
 ·cases h
 ·split at h
  ·assumption
  ·cases h
theorem img_eq (s:Scr) (F:Fo):s.img F = imgG s.wd s.ht (s.gF F):=rfl
theorem img_len (s:Scr) (F:Fo):(s.img F).length = s.ht * s.wd:=imgG_len _ _ _
def lilI (l:List Img):Prop:=∀ i,(0 ≤ (imAt l i).w ∧ (imAt l i).w ≤ 1000) ∧ (0 ≤ (imAt l i).h ∧ (imAt l i).h ≤ 1000)
theorem opE_zero {n mx:Int} {free:Bool} {o:Opr} {op:List Opr} (hk:o.k = 1 ∨ o.k = 2) (hf:fieldsB o = true) (ho:o.ok n mx free) (hc:ctxB op = free) (hl:op.length < 64):opE n mx o op = 0:=by
 unfold opE
 rw [if_neg (by omega),if_neg (by rw [hf]; decide),if_neg (by omega),if_neg (by omega),if_neg ?_,if_neg (by rw [ho.nr]; decide),if_neg (by have:=ho.oc; omega),if_neg (by rw [ho.op]; decide),if_neg (by rw [ho.md]; decide),if_neg ?_,if_neg (by omega)]
 ·rintro ⟨h1,h2⟩
  rcases ho.fr with h3 | h3
  ·exact h1 h3
  ·rw [hc,h3] at h2
   cases h2
 ·rintro (⟨h1,h2⟩ | h2 | h2)
  ·have:=ho.im h1
   omega
  ·have:=ho.ms.1
   omega
  ·have:=ho.ms.2
   omega
theorem opsE_popI {n mx:Int} {op r:List Opr} (i:Nat) (h:op ≠ []):opsE n mx (popO :: r) i op = opsE n mx r (i + 1) op.dropLast:=by
 have h0:opE n mx popO op = 0:=by
  have hl:op.length ≠ 0:=fun e => h (List.length_eq_zero_iff.1 e)
  unfold opE
  rw [if_neg (by decide),if_neg (by decide),if_neg (fun e => hl e.2),if_pos (show popO.k = 3 from rfl)]
 rw [opsE,if_neg (by rw [h0]; decide),if_neg (by decide),if_pos (show popO.k = 3 from rfl)]
theorem ctx_snoc' (op:List Opr) (o:Opr):ctxB (op ++ [o]) = o.free:=by
 unfold ctxB
 rw [List.getLast?_append]
 rfl
theorem opsE_flat {n mx:Int} (F:Fo):∀ (b:Bool) (op r:List Opr) (i:Nat),F.ok n mx b → (∀ o ∈ F.flat,fieldsB o = true) → ctxB op = b → op.length + F.flat.length ≤ 64 → opsE n mx (F.flat ++ r) i op = opsE n mx r (i + F.flat.length) op:=by
 induction F with
 | nil => exact fun b op r i _ _ _ _ => rfl
 | draw o r' ih =>
  intro b op r i h hf hc hl
  simp only [Fo.flat,List.mem_cons,forall_eq_or_imp,List.length_cons] at hf hl
  have h0:=opE_zero (.inl h.1) hf.1 h.2.1 hc (by omega)
  show opsE n mx (o :: (r'.flat ++ r)) i op = opsE n mx r (i + (o :: r'.flat).length) op
  rw [opsE,if_neg (by rw [h0]; decide),if_neg (by have:=h.1; omega),if_neg (by have:=h.1; omega),ih b op r (i + 1) h.2.2 hf.2 hc (by omega),List.length_cons]
  congr 1
  omega
 | grp o k r' ihk ihr =>
  intro b op r i h hf hc hl
  simp only [Fo.flat,List.mem_cons,List.mem_append,forall_eq_or_imp,List.length_cons,List.length_append] at hf hl
  have h0:=opE_zero (.inr h.1) hf.1 h.2.1 hc (by omega)
  show opsE n mx (o :: ((k.flat ++ popO :: r'.flat) ++ r)) i op = opsE n mx r (i + (o :: (k.flat ++ popO :: r'.flat)).length) op
  rw [opsE,if_neg (by rw [h0]; decide),if_pos h.1,List.append_assoc,ihk o.free (op ++ [o]) _ (i + 1) h.2.2.1 (fun q hq => hf.2 q (.inl hq)) (ctx_snoc' op o) (by simp only [List.length_append,List.length_cons,List.length_nil]; omega)]
  rw [List.cons_append,opsE_popI _ (by simp),List.dropLast_concat,ihr b op r _ h.2.2.2 (fun q hq => hf.2 q (.inr (.inr hq))) hc (by omega)]
  congr 1
  simp only [List.length_append,List.length_cons]
  omega
theorem opsE_done {n mx:Int} {F:Fo} (h:F.ok n mx true) (hf:∀ o ∈ F.flat,fieldsB o = true) (hl:F.flat.length ≤ 64):opsE n mx F.flat 0 [] = (0,0):=by
 have e:=opsE_flat F true [] [] 0 h hf rfl (by simpa using hl)
 rw [List.append_nil] at e
 rw [e,opsE]
 rfl
theorem opsE_fields {n mx:Int} (l:List Opr):∀ (i:Nat) (op:List Opr),(opsE n mx l i op).1 = 0 → ∀ o ∈ l,fieldsB o = true:=by
 induction l with
 | nil => exact fun i op _ o h => absurd h (by simp)
 | cons o r ih =>
  intro i op h
  rw [opsE] at h
  by_cases h0:opE n mx o op = 0
  case neg =>
   rw [if_pos h0] at h
   exact absurd h h0
  rw [if_neg (by rw [h0]; decide)] at h
  have hr:∀ q ∈ r,fieldsB q = true:=by
   split at h
   ·exact ih _ _ h
   ·split at h
    ·exact ih _ _ h
    ·exact ih _ _ h
  have ho:fieldsB o = true:=by
   cases hb:fieldsB o
   ·unfold opE at h0
    split at h0
    ·cases h0
    ·cases h0
   ·rfl
  intro q hq
  rcases List.mem_cons.1 hq with rfl | hq
  ·exact ho
  ·exact hr q hq
theorem imgsE_zero {mx:Int} (l:List Img):∀ i:Nat,(∀ m ∈ l,validI m mx = 0) → imgsE mx l i = (0,0):=by
 induction l with
 | nil => exact fun i _ => rfl
 | cons m r ih =>
  intro i h
  rw [imgsE,if_neg (by rw [h m (List.mem_cons_self ..)]; decide)]
  exact ih _ fun q hq => h q (List.mem_cons_of_mem _ hq)
theorem checkE_zero {s:Scr} (h1:frameE s = 0) (h2:∀ m ∈ s.ims,validI m s.mx = 0) (h3:opsE s.inn s.mx s.ops 0 [] = (0,0)):checkE s = (0,0):=by
 unfold checkE
 rw [if_neg (by rw [h1]; decide),imgsE_zero _ _ h2,if_neg (by decide)]
 unfold opsEs
 rw [if_neg (by rw [h1]; decide)]
 exact h3
theorem maxB_of {b:Int} (h:b = 8 ∨ b = 16):maxB b = true:=by
 rcases h with rfl | rfl <;> rfl
theorem ok_kd {n mx:Int} (F:Fo):∀ b,F.ok n mx b → F.kd:=by
 induction F with
 | nil => exact fun b h => trivial
 | draw o r ih => exact fun b h => ⟨h.1,ih b h.2.2⟩
 | grp o k r ihk ihr => exact fun b h => ⟨h.1,ihk _ h.2.2.1,ihr b h.2.2.2⟩
theorem ims_sm {l:List Img} (h:∀ m ∈ l,(1 ≤ m.w ∧ m.w ≤ 5) ∧ (1 ≤ m.h ∧ m.h ≤ 5)) (i:Int):(0 ≤ (imAt l i).w ∧ (imAt l i).w ≤ 1000) ∧ (0 ≤ (imAt l i).h ∧ (imAt l i).h ≤ 1000):=by
 unfold imAt
 cases e:l[i.toNat]? with
 | none => exact ⟨⟨by decide,by decide⟩,⟨by decide,by decide⟩⟩
 | some m =>
  have:=h m (List.mem_of_getElem? e)
  show (0 ≤ m.w ∧ m.w ≤ 1000) ∧ (0 ≤ m.h ∧ m.h ≤ 1000)
  omega
theorem srcOk_of {l:List Img} {mx:Int} (hm:0 ≤ mx) (h:∀ m ∈ l,∀ X Y,Px.ok mx (atF m X Y)):SrcOk l mx:=by
 refine ⟨fun i X Y => ?_,trivial⟩
 unfold imAt
 cases e:l[i.toNat]? with
 | none =>
  have z:=Int.le_refl (0:Int)
  exact (⟨z,z,z,z,z,z,z,hm⟩:Px.ok mx pxz)
 | some m => exact h m (List.mem_of_getElem? e) X Y
section
variable {W:World} {base:Nat} {s:Scr} {F:Fo} (h:GScr W base s F)
include h
theorem GScr.sm:s.Sm:=by
 have f:=h.fr
 exact ⟨f.u0,f.u1,f.v0,by have:=f.v1; omega,by have:=f.x0; omega,by have:=f.x1; omega,by have:=f.y0; omega,by have:=f.y1; omega,f.t0,f.t1,f.t2,f.t3,by have:=h.i4; omega,by have:=h.pn; omega⟩
theorem GScr.frm:frameE s = 0:=by
 unfold frameE
 rw [if_neg (by rw [maxB_of h.fr.bt]; decide),if_pos h.oo]
theorem GScr.vb:s.Vb F:=⟨h.fo,h.ok,fun m hm => (h.g m hm).sm,h.frm,h.ps⟩
theorem GScr.chk:checkE s = (0,0):=checkE_zero h.frm (fun m hm => (h.g m hm).ok) h.ps
theorem GScr.src:SrcOk s.ims s.mx:=srcOk_of (by have:=h.mxc; omega) fun m hm => (h.g m hm).px
theorem GScr.lil:lilI s.ims:=ims_sm fun m hm => ⟨⟨(h.g m hm).w0,(h.g m hm).w1⟩,⟨(h.g m hm).h0,(h.g m hm).h1⟩⟩
theorem GScr.lops:F.flat.length = s.pn:=by
 have:=h.op.1
 rw [oprs_len] at this
 rw [← h.fo]
 omega
theorem GScr.flds:∀ o ∈ F.flat,fieldsB o = true:=by
 rw [← h.fo]
 exact opsE_fields s.ops 0 [] (by rw [h.ps])
theorem GScr.ol:s.on ≤ 25:=by
 have hl:s.ord.length = s.on:=by
  have:=h.ord.1
  rw [ints_len] at this
  omega
 have hn:=(sm_nt h.sm).2.2
 rcases h.oo with e | e
 ·omega
 ·have:=e.1
  omega
theorem GScr.In:s.In W:=⟨by have:=h.ol; omega,by have:=h.i4; omega,by have:=h.pn; omega,own_sl' h.ord,own_sl' h.im,own_sl' h.op,fun m hm => (h.g m hm).mem⟩
end
theorem GScr.bel {W W':World} {base:Nat} {s:Scr} {F:Fo} (h:GScr W base s F) (hb:Bel W W'):GScr W' base s F:=⟨own_ext h.ord hb,own_ext h.im hb,own_ext h.op hb,fun m hm => (h.g m hm).bel hb,h.mxc,h.fr,h.oo,h.i1,h.i4,h.pn,h.fo,h.ok,h.pos,h.ps,h.nr⟩
theorem repL_snoc (m:Int) (kn:Bool) (l:List Opr) (o:Opr) (k:Nat):repL m kn (l ++ [o]) k = repL m kn l k ++ (if l.length = k ∧ o.k = 1 then [gOf kn o,dOf m o,popO] else [o]):=by
 rcases Nat.lt_or_ge k l.length with h | h
 ·rw [repL_left m kn l [o] k h,if_neg (by omega)]
 ·rw [repL_right m kn l [o] k h]
  have e:=repL_right m kn l [] k h
  rw [List.append_nil] at e
  have e2:repL m kn [] (k - l.length) = []:=by
   cases k - l.length <;> rfl
  rw [e,e2,List.append_nil]
  rcases Nat.eq_or_lt_of_le h with h1 | h1
  ·rw [show k - l.length = 0 by omega]
   show l ++ (if o.k = 1 then [gOf kn o,dOf m o,popO] else [o]) = _
   by_cases hk:o.k = 1
   ·rw [if_pos hk,if_pos ⟨h1,hk⟩]
   ·rw [if_neg hk,if_neg fun e => hk e.2]
  ·obtain ⟨q,hq⟩:∃ q,k - l.length = q + 1:=⟨k - l.length - 1,by omega⟩
   rw [hq,if_neg (by omega)]
   rfl
open Go.RowKit
set_option linter.unusedSimpArgs false
structure PlEq (p q:Pln):Prop where
 w:p.w = q.w
 h:p.h = q.h
 st:p.st = q.st
 n:p.n = q.n
 xs:p.xs = q.xs
set_option maxHeartbeats 8000000 in
theorem samePlane_call (p q:Pln) (hq:PlEq p q) (w:World) (hp:p.In w) (hq':q.In w):Calls Tryz.prog 36 #[p.v,q.v] w fun e w' => e = .returned (.bool true) ∧ Bel w w':=by
 obtain ⟨pw,ph,pst,pA,n,pc,xs⟩:=p
 obtain ⟨qw,qh,qst,qA,qn,qc,qxs⟩:=q
 obtain ⟨e1,e2,e3,e4,e5⟩:=hq
 dsimp only at e1 e2 e3 e4 e5
 subst e1 e2 e3 e4 e5
 have HA:=hd_ hp.2
 have HB:=hd_ hq'.2
 have hl:xs.length = n:=hp.len
 have hn:=hp.1
 dsimp only at hn
 clear hp hq'
 go_enter Tryz.func36,Tryz.ntmps36
 go_upto_region 1 with fail
 refine at_world (fun V => Bel w V ∧ V.heap[w.heap.size]? = some (.cells #[.int .i64 pw,.int .i64 ph,.int .i64 pst,.slice pA n pc] 43) ∧ V.heap[w.heap.size + 1]? = some (.cells #[.int .i64 pw,.int .i64 ph,.int .i64 pst,.slice qA n qc] 43)) ⟨((Bel.refl w).al _).al _,at_old (at_new (by first | rfl | simp)),at_new (by first | rfl | simp)⟩ ?_
 rintro V ⟨hX,eP,eQ⟩
 have Ps:=lt_of_heap eP
 have Qs:=lt_of_heap eQ
 have P_0:=cq0 eP rfl
 have P_1:=cq1 eP rfl
 have P_2:=cq2 eP rfl
 have P_3:=cq3 eP rfl
 have Q_0:=cq0 eQ rfl
 have Q_1:=cq1 eQ rfl
 have Q_2:=cq2 eQ rfl
 have Q_3:=cq3 eQ rfl
 have fP:=frozA eP
 have fQ:=frozA eQ
 go_wp2_with fail
 have HE:=hd_ (And.intro hX (And.intro eP eQ))
 clear Ps P_0 P_1 P_2 P_3 fP Qs Q_0 Q_1 Q_2 Q_3 fQ hX eP eQ
 go_loopg [5] n (fun gk s5 wr => ∃ j:Nat,j + gk = n ∧ s5 = .int .i64 j ∧ Bel w wr ∧ wr.heap[w.heap.size]? = some (.cells #[.int .i64 pw,.int .i64 ph,.int .i64 pst,.slice pA n pc] 43) ∧ wr.heap[w.heap.size + 1]? = some (.cells #[.int .i64 pw,.int .i64 ph,.int .i64 pst,.slice qA n qc] 43))
 case atStart => exact ⟨0,by omega,rfl,HE.out.1,HE.out.2.1,HE.out.2.2⟩
 case round =>
  obtain ⟨j,hgk,rfl,hX,eP,eQ⟩:=hrel
  clear HE
  by_cases hlt:j < n
  case neg =>
   obtain rfl:j = n:=by omega
   have P_3:=cq3 eP rfl
   have HX:=hd_ hX
   clear hX eP eQ
   have hd:decide ((j:Int) < (j:Int)) = false:=decide_eq_false (by omega)
   go_wp2_with fail
   go_returns
   exact ⟨rfl,HX.out⟩
  case pos =>
   have hd:decide ((j:Int) < (n:Int)) = true:=decide_eq_true (by omega)
   obtain ⟨v,hv⟩:∃ v,xs[j]? = some v:=⟨_,List.getElem?_eq_getElem (by rw [hl]; exact hlt)⟩
   obtain ⟨ga,oa,hae,d1⟩:=(HA.out.bel hX).sm hv hlt
   obtain ⟨gb,ob,hbe,d2⟩:=(HB.out.bel hX).sm hv hlt
   subst hae hbe
   have P_3:=cq3 eP rfl
   have q1:=fun q:Bw wr => q.h.cell d1
   have q2:=fun q:Bw wr => q.h.cell d2
   have q3:=fun q:Bw wr => q.h.cell (cq3 eP rfl)
   have q4:=fun q:Bw wr => q.h.cell (cq3 eQ rfl)
   have HE:=hd_ (And.intro hX (And.intro eP eQ))
   clear hX eP eQ d1 d2 hv
   go_upto_region 6 with fail
   clear P_3
   refine region_bel (by kernel_rfl) (by kernel_rfl) ?_
   repeat (go_big_quiet_step (fail))
   refine wpQuiet_nil ?_
   rintro w5 ⟨q,rfl⟩
   clear q1 q2 q3 q4
   go_wp2_with fail
   go_roundg (gk - 1)
   case measure => omega
   case rel => exact ⟨j + 1,by omega,by go_num,HE.out.1.trans q.h,q.h.heap HE.out.2.1,q.h.heap HE.out.2.2⟩
structure ImEq (m k:Img):Prop where
 w:m.w = k.w
 h:m.h = k.h
 s:m.solid = k.solid
 c:m.col = k.col
 pl:∀ i,i < 5 → PlEq (m.pl i) (k.pl i)
set_option maxHeartbeats 8000000 in
theorem sameImage_call (m k:Img) (hk:ImEq m k) (w:World) (hm:m.In w) (hk':k.In w):Calls Tryz.prog 12 #[m.v,k.v] w fun e w' => e = .returned (.bool true) ∧ Bel w w':=by
 have hP:=hd_ (fun (p q:Pln) (hq:PlEq p q) (W:World) (h1:p.In W) (h2:q.In W) => samePlane_call p q hq W h1 h2)
 have HK:=hd_ hk
 have HM1:=hd_ hm
 have HM2:=hd_ hk'
 clear hk hm hk'
 go_enter Tryz.func12,Tryz.ntmps12
 go_upto_region 1 with fail
 refine at_world (fun V => Bel w V ∧ V.heap[w.heap.size]? = some (oIm m) ∧ V.heap[w.heap.size + 1]? = some (oIm k)) ⟨((Bel.refl w).al _).al _,at_old (at_new (by first | rfl | simp)),at_new (by first | rfl | simp)⟩ ?_
 rintro V ⟨hX,eM,eK⟩
 have Ms:=lt_of_heap eM
 have Ks:=lt_of_heap eK
 have fM:=frozA eM
 have fK:=frozA eK
 go_wp2_with fail
 have HE:=hd_ (And.intro hX (And.intro eM eK))
 clear Ms fM Ks fK hX eM eK
 go_loopg [5] 5 (fun gk s5 wr => ∃ j:Nat,j + gk = 5 ∧ s5 = .int .i64 j ∧ Bel w wr ∧ wr.heap[w.heap.size]? = some (oIm m) ∧ wr.heap[w.heap.size + 1]? = some (oIm k))
 case atStart => exact ⟨0,by omega,rfl,HE.out.1,HE.out.2.1,HE.out.2.2⟩
 case round =>
  obtain ⟨j,hgk,rfl,hX,eM,eK⟩:=hrel
  clear HE
  by_cases hlt:j < 5
  case neg =>
   obtain rfl:j = 5:=by omega
   have k1:=HK.out.w
   have k2:=HK.out.h
   have k3:=HK.out.s
   have k4:=HK.out.c
   have he1:∀ W,(binOp .eql 32 (.agg #[.int .u16 k.col.x,.int .u16 k.col.y,.int .u16 k.col.z,.int .u16 k.col.a,.int .u16 k.col.f]) (.agg #[.int .u16 k.col.x,.int .u16 k.col.y,.int .u16 k.col.z,.int .u16 k.col.a,.int .u16 k.col.f])).run Tryz.prog W = .ok (.bool true) W:=fun W => by rw [eql_pixel]; simp
   have he2:∀ W,(binOp .eql 32 (.agg #[.int .u16 m.col.x,.int .u16 m.col.y,.int .u16 m.col.z,.int .u16 m.col.a,.int .u16 m.col.f]) (.agg #[.int .u16 k.col.x,.int .u16 k.col.y,.int .u16 k.col.z,.int .u16 k.col.a,.int .u16 k.col.f])).run Tryz.prog W = .ok (.bool true) W:=fun W => by rw [eql_pixel,k4]; simp
   have M_0:=cq0 eM rfl
   have M_1:=cq1 eM rfl
   have M_2:=cq2 eM rfl
   have M_3:=cq3 eM rfl
   have M_4:=cq4 eM rfl
   have M_5:=cq5 eM rfl
   have M_6:=cq6 eM rfl
   have M_7:=cq7 eM rfl
   have K_0:=cq0 eK rfl
   have K_1:=cq1 eK rfl
   have K_2:=cq2 eK rfl
   have K_3:=cq3 eK rfl
   have K_4:=cq4 eK rfl
   have K_5:=cq5 eK rfl
   have K_6:=cq6 eK rfl
   have K_7:=cq7 eK rfl
   have HX:=hd_ hX
   clear hX eM eK
   go_wp2_with fail
   go_returns
   refine ⟨?_,HX.out⟩
   simp [k1,k2,k3,k4]
  case pos =>
   have hj:j = 0 ∨ j = 1 ∨ j = 2 ∨ j = 3 ∨ j = 4:=by omega
   have HE:=hd_ (And.intro hX (And.intro eM eK))
   rcases hj with rfl | rfl | rfl | rfl | rfl
   ·have a0:=fun q:Bw wr => q.h.cell (cq8 eM rfl)
    have a1:=fun q:Bw wr => q.h.cell (cq9 eM rfl)
    have a2:=fun q:Bw wr => q.h.cell (cq10 eM rfl)
    have a3:=fun q:Bw wr => q.h.cell (cq11 eM rfl)
    have c0:=fun q:Bw wr => q.h.cell (cq8 eK rfl)
    have c1:=fun q:Bw wr => q.h.cell (cq9 eK rfl)
    have c2:=fun q:Bw wr => q.h.cell (cq10 eK rfl)
    have c3:=fun q:Bw wr => q.h.cell (cq11 eK rfl)
    have hc:=hd_ (fun q:Bw wr => calls_bq (q:=q) (hP.out m.p0 k.p0 (HK.out.pl 0 (by decide)) q.W ((HM1.out.bel (hX.trans q.h)).i0) ((HM2.out.bel (hX.trans q.h)).i0)))
    clear hX eM eK
    go_upto_region 4 with fail
    refine region_bel (by kernel_rfl) (by kernel_rfl) ?_
    repeat (go_big_quiet_step (first | (go_at_call 36; with_reducible exact hc.out _)))
    refine wpQuiet_nil ?_
    rintro w5 ⟨q,rfl⟩
    clear a0 a1 a2 a3 c0 c1 c2 c3 hc
    go_wp2_with fail
    go_roundg (gk - 1)
    case measure => omega
    case rel => exact ⟨1,by omega,by go_num,HE.out.1.trans q.h,q.h.heap HE.out.2.1,q.h.heap HE.out.2.2⟩
   ·have a0:=fun q:Bw wr => q.h.cell (cq12 eM rfl)
    have a1:=fun q:Bw wr => q.h.cell (cq13 eM rfl)
    have a2:=fun q:Bw wr => q.h.cell (cq14 eM rfl)
    have a3:=fun q:Bw wr => q.h.cell (cq15 eM rfl)
    have c0:=fun q:Bw wr => q.h.cell (cq12 eK rfl)
    have c1:=fun q:Bw wr => q.h.cell (cq13 eK rfl)
    have c2:=fun q:Bw wr => q.h.cell (cq14 eK rfl)
    have c3:=fun q:Bw wr => q.h.cell (cq15 eK rfl)
    have hc:=hd_ (fun q:Bw wr => calls_bq (q:=q) (hP.out m.p1 k.p1 (HK.out.pl 1 (by decide)) q.W ((HM1.out.bel (hX.trans q.h)).i1) ((HM2.out.bel (hX.trans q.h)).i1)))
    clear hX eM eK
    go_upto_region 4 with fail
    refine region_bel (by kernel_rfl) (by kernel_rfl) ?_
    repeat (go_big_quiet_step (first | (go_at_call 36; with_reducible exact hc.out _)))
    refine wpQuiet_nil ?_
    rintro w5 ⟨q,rfl⟩
    clear a0 a1 a2 a3 c0 c1 c2 c3 hc
    go_wp2_with fail
    go_roundg (gk - 1)
    case measure => omega
    case rel => exact ⟨2,by omega,by go_num,HE.out.1.trans q.h,q.h.heap HE.out.2.1,q.h.heap HE.out.2.2⟩
   ·have a0:=fun q:Bw wr => q.h.cell (cq16 eM rfl)
    have a1:=fun q:Bw wr => q.h.cell (cq17 eM rfl)
    have a2:=fun q:Bw wr => q.h.cell (cq18 eM rfl)
    have a3:=fun q:Bw wr => q.h.cell (cq19 eM rfl)
    have c0:=fun q:Bw wr => q.h.cell (cq16 eK rfl)
    have c1:=fun q:Bw wr => q.h.cell (cq17 eK rfl)
    have c2:=fun q:Bw wr => q.h.cell (cq18 eK rfl)
    have c3:=fun q:Bw wr => q.h.cell (cq19 eK rfl)
    have hc:=hd_ (fun q:Bw wr => calls_bq (q:=q) (hP.out m.p2 k.p2 (HK.out.pl 2 (by decide)) q.W ((HM1.out.bel (hX.trans q.h)).i2) ((HM2.out.bel (hX.trans q.h)).i2)))
    clear hX eM eK
    go_upto_region 4 with fail
    refine region_bel (by kernel_rfl) (by kernel_rfl) ?_
    repeat (go_big_quiet_step (first | (go_at_call 36; with_reducible exact hc.out _)))
    refine wpQuiet_nil ?_
    rintro w5 ⟨q,rfl⟩
    clear a0 a1 a2 a3 c0 c1 c2 c3 hc
    go_wp2_with fail
    go_roundg (gk - 1)
    case measure => omega
    case rel => exact ⟨3,by omega,by go_num,HE.out.1.trans q.h,q.h.heap HE.out.2.1,q.h.heap HE.out.2.2⟩
   ·have a0:=fun q:Bw wr => q.h.cell (cq20 eM rfl)
    have a1:=fun q:Bw wr => q.h.cell (cq21 eM rfl)
    have a2:=fun q:Bw wr => q.h.cell (cq22 eM rfl)
    have a3:=fun q:Bw wr => q.h.cell (cq23 eM rfl)
    have c0:=fun q:Bw wr => q.h.cell (cq20 eK rfl)
    have c1:=fun q:Bw wr => q.h.cell (cq21 eK rfl)
    have c2:=fun q:Bw wr => q.h.cell (cq22 eK rfl)
    have c3:=fun q:Bw wr => q.h.cell (cq23 eK rfl)
    have hc:=hd_ (fun q:Bw wr => calls_bq (q:=q) (hP.out m.p3 k.p3 (HK.out.pl 3 (by decide)) q.W ((HM1.out.bel (hX.trans q.h)).i3) ((HM2.out.bel (hX.trans q.h)).i3)))
    clear hX eM eK
    go_upto_region 4 with fail
    refine region_bel (by kernel_rfl) (by kernel_rfl) ?_
    repeat (go_big_quiet_step (first | (go_at_call 36; with_reducible exact hc.out _)))
    refine wpQuiet_nil ?_
    rintro w5 ⟨q,rfl⟩
    clear a0 a1 a2 a3 c0 c1 c2 c3 hc
    go_wp2_with fail
    go_roundg (gk - 1)
    case measure => omega
    case rel => exact ⟨4,by omega,by go_num,HE.out.1.trans q.h,q.h.heap HE.out.2.1,q.h.heap HE.out.2.2⟩
   ·have a0:=fun q:Bw wr => q.h.cell (cq24 eM rfl)
    have a1:=fun q:Bw wr => q.h.cell (cq25 eM rfl)
    have a2:=fun q:Bw wr => q.h.cell (cq26 eM rfl)
    have a3:=fun q:Bw wr => q.h.cell (cq27 eM rfl)
    have c0:=fun q:Bw wr => q.h.cell (cq24 eK rfl)
    have c1:=fun q:Bw wr => q.h.cell (cq25 eK rfl)
    have c2:=fun q:Bw wr => q.h.cell (cq26 eK rfl)
    have c3:=fun q:Bw wr => q.h.cell (cq27 eK rfl)
    have hc:=hd_ (fun q:Bw wr => calls_bq (q:=q) (hP.out m.p4 k.p4 (HK.out.pl 4 (by decide)) q.W ((HM1.out.bel (hX.trans q.h)).i4) ((HM2.out.bel (hX.trans q.h)).i4)))
    clear hX eM eK
    go_upto_region 4 with fail
    refine region_bel (by kernel_rfl) (by kernel_rfl) ?_
    repeat (go_big_quiet_step (first | (go_at_call 36; with_reducible exact hc.out _)))
    refine wpQuiet_nil ?_
    rintro w5 ⟨q,rfl⟩
    clear a0 a1 a2 a3 c0 c1 c2 c3 hc
    go_wp2_with fail
    go_roundg (gk - 1)
    case measure => omega
    case rel => exact ⟨5,by omega,by go_num,HE.out.1.trans q.h,q.h.heap HE.out.2.1,q.h.heap HE.out.2.2⟩
theorem ImOf.eqv {W W':World} {b b':Nat} {w h:Int} {l:List Px} {n:Nat} {m k:Img} (H:ImOf W b w h l n m) (K:ImOf W' b' w h l n k):ImEq m k :=
 ⟨H.ew.trans K.ew.symm,H.eh.trans K.eh.symm,H.es.trans K.es.symm,H.ec.trans K.ec.symm,fun i hi => by
  have P:=H.pl i hi
  have Q:=K.pl i hi
  exact ⟨P.ew.trans Q.ew.symm,P.eh.trans Q.eh.symm,P.es.trans Q.es.symm,P.en.trans Q.en.symm,P.ex.trans Q.ex.symm⟩⟩
section
variable {W:World} {b:Nat} {s:Scr} {F:Fo} {m:Img} (hm:s.Sm) (H:ImOf W b (s.can.u - s.can.x) (s.can.v - s.can.y) (s.img F) (s.ht * s.wd) m)
include hm H
theorem im_dims:m.w = (s.wd:Int) ∧ m.h = (s.ht:Int) ∧ (1 ≤ s.wd ∧ s.wd ≤ 5) ∧ (1 ≤ s.ht ∧ s.ht ≤ 5):=by
 obtain ⟨c1,c2,c3,c4,-⟩:=id hm
 rw [H.ew,H.eh]
 unfold Scr.wd Scr.ht
 omega
theorem im_mul:(s.can.u - s.can.x) * (s.can.v - s.can.y) = ((s.ht * s.wd:Nat):Int) ∧ s.ht * s.wd ≤ 25:=by
 obtain ⟨e1,e2,e3,e4⟩:=im_dims hm H
 rw [← H.ew,← H.eh,e1,e2]
 exact ⟨by push_cast; exact Int.mul_comm _ _,Nat.mul_le_mul e4.2 e3.2⟩
theorem im_form:formB m = true:=by
 obtain ⟨e1,e2,e3,e4⟩:=im_dims hm H
 obtain ⟨h1,h2⟩:=im_mul hm H
 exact H.form (by rw [← H.ew]; omega) (by rw [← H.eh]; omega) h1 (by omega)
theorem im_In:m.In W:=H.In (by have:=(im_mul hm H).2; omega)
theorem im_px {i j:Nat} (hi:i < s.wd) (hj:j < s.ht):pxF m i j = s.gF F j i:=by
 obtain ⟨e1,e2,e3,e4⟩:=im_dims hm H
 obtain ⟨h1,h2⟩:=im_mul hm H
 have hw:s.can.u - s.can.x = (s.wd:Int):=by rw [← H.ew]; exact e1
 have hh:s.can.v - s.can.y = (s.ht:Int):=by rw [← H.eh]; exact e2
 obtain ⟨p,hp,e⟩:=H.get (by omega) h1 (img_len s F) (x:=(i:Int)) (y:=(j:Int)) (by omega) (by omega) (by omega) (by omega)
 rw [e]
 have hq:((j:Int) * (s.can.u - s.can.x) + i).toNat = j * s.wd + i:=by
  rw [hw]
  have:((j:Int) * (s.wd:Int) + (i:Int)) = ((j * s.wd + i:Nat):Int):=by push_cast; rfl
  rw [this]
  rfl
 rw [hq,img_eq,imgG_get _ _ _ hj hi] at hp
 exact (Option.some.inj hp).symm
end
def awI:Img:=⟨1,1,true,⟨200,0,0,255,255⟩,zPl,zPl,zPl,zPl,zPl⟩
def awO:Opr:=⟨1,0,2,1,0,0,0,255,4,1,false,false⟩
def awS (a b:Option Addr):Scr:=⟨8,⟨0,0,3,2⟩,2,1,none,0,0,[],a,1,1,[awI],b,1,1,[awO]⟩
def awF:Fo:=.draw awO .nil
theorem aw_sm (a b:Option Addr):(awS a b).Sm:=⟨(by decide:(0:Int) < 3),(by decide:(3:Int) ≤ 0 + 5),(by decide:(0:Int) < 2),(by decide:(2:Int) ≤ 0 + 5),(by decide:(-1048576:Int) ≤ 0),(by decide:(0:Int) ≤ 1048576),(by decide:(-1048576:Int) ≤ 0),(by decide:(0:Int) ≤ 1048576),(by decide:(1:Int) ≤ 2),(by decide:(2:Int) ≤ 3 - 0),(by decide:(1:Int) ≤ 1),(by decide:(1:Int) ≤ 2 - 0),(by decide:1 ≤ 64),(by decide:1 ≤ 100)⟩
theorem aw_nt (a b:Option Addr):(awS a b).nt = 4:=by
 show (cntX ⟨0,0,3,2⟩ 2 1 * cntY ⟨0,0,3,2⟩ 2 1).toNat = 4
 decide
theorem aw_mx (a b:Option Addr):(awS a b).mx = 255:=rfl
theorem aw_fr (a b:Option Addr):frameE (awS a b) = 0:=by
 unfold frameE
 rw [if_neg (by show ¬ (maxB 8 = false); decide),if_pos (.inl rfl)]
theorem aw_ok (a b:Option Addr):awF.ok (awS a b).inn (awS a b).mx true :=
 ⟨rfl,⟨fun _ => ⟨by decide,by show (0:Int) < ((1:Nat):Int); decide⟩,⟨by decide,by show (0:Int) ≤ ((1:Nat):Int); decide⟩,by decide,by show (255:Int) ≤ 255; decide,by decide,by decide,.inl rfl⟩,trivial⟩
theorem aw_px:Px.ok 255 ⟨200,0,0,255,255⟩:=⟨by decide,by decide,by decide,by decide,by decide,by decide,by decide,by decide⟩
theorem aw_ps (a b:Option Addr):opsE (awS a b).inn (awS a b).mx (awS a b).ops 0 [] = (0,0) :=
 opsE_done (F:=awF) (aw_ok a b) (fun o h => by
  rw [show o = awO by simpa [awF,Fo.flat] using h]
  decide) (by decide)
theorem aw_im (m:Img) (h:m ∈ (awS none none).ims):m = solidF 1 1 ⟨200,0,0,255,255⟩:=List.mem_singleton.1 h
theorem aw_vb (a b:Option Addr):(awS a b).Vb awF:=⟨rfl,aw_ok a b,fun m hm => by
  rw [aw_im m hm]
  exact ⟨by decide,by decide,by decide,by decide⟩,aw_fr a b,aw_ps a b⟩
theorem aw_chk (a b:Option Addr):checkE (awS a b) = (0,0):=checkE_zero (aw_fr a b) (fun m hm => by
  rw [aw_im m hm]
  exact solid_ok 1 1 _ 255 (by decide) aw_px) (aw_ps a b)
theorem aw_src (a b:Option Addr):SrcOk (awS a b).ims (awS a b).mx:=srcOk_of (by show (0:Int) ≤ 255; decide) fun m hm X Y => by
  rw [aw_im m hm]
  exact solid_px 1 1 _ 255 (by decide) aw_px X Y
theorem aw_pos:awF.pos:=⟨by decide,trivial⟩
theorem aw_tls (a b:Option Addr):(awS a b).tls = [⟨0,0,2,1⟩,⟨2,0,3,1⟩,⟨0,1,2,2⟩,⟨2,1,3,2⟩]:=by
 unfold Scr.tls
 rw [aw_nt]
 show (orderF [] 4).map (tRect ⟨0,0,3,2⟩ 2 1) = _
 kernel_rfl
theorem base_res:resF 255 baseF.c pxz = pxz:=by
 have z:=Int.le_refl (0:Int)
 exact res_own (p:=pxz) (by decide) ⟨z,z,z,z,z,z,z,by decide⟩
theorem aw_in (a b:Option Addr):(awS a b).gF awF 1 2 = ⟨200,0,0,255,255⟩:=by
 unfold Scr.gF
 rw [aw_tls]
 simp only [List.foldl_cons,List.foldl_nil]
 unfold tileW
 have h:(2:Int) ≤ 0 + ((2:Nat):Int) ∧ 0 + ((2:Nat):Int) < 3 ∧ (1:Int) ≤ 0 + ((1:Nat):Int) ∧ 0 + ((1:Nat):Int) < 2:=by decide
 refine (if_pos h).trans ?_
 unfold ptF
 show resF 255 (evalF ⟨0,0,3,2⟩ [awI] 255 ⟨2,1,3,2⟩ 2 1 (.draw awO .nil) baseF).c pxz = _
 unfold evalF
 rw [if_pos (by decide)]
 unfold evalF
 have hp:sAt [awI] awO 2 1 = ⟨200,0,0,255,255⟩:=by kernel_rfl
 rw [hp]
 show resF 255 (stepF false 4 1 255 (bothF 255 255 255 ⟨200,0,0,255,255⟩) acz pxz) pxz = _
 rw [both_own 255 (by decide),step_own (.inl rfl) false aw_px]
 exact res_own (by decide) aw_px
theorem aw_out (a b:Option Addr):(awS a b).gF awF 1 1 = pxz:=by
 unfold Scr.gF
 rw [aw_tls]
 simp only [List.foldl_cons,List.foldl_nil]
 unfold tileW
 have h1:¬ ((2:Int) ≤ 0 + ((1:Nat):Int) ∧ 0 + ((1:Nat):Int) < 3 ∧ (1:Int) ≤ 0 + ((1:Nat):Int) ∧ 0 + ((1:Nat):Int) < 2):=by decide
 have h2:(0:Int) ≤ 0 + ((1:Nat):Int) ∧ 0 + ((1:Nat):Int) < 2 ∧ (1:Int) ≤ 0 + ((1:Nat):Int) ∧ 0 + ((1:Nat):Int) < 2:=by decide
 refine (if_neg h1).trans ((if_pos h2).trans ?_)
 unfold ptF
 show resF 255 (evalF ⟨0,0,3,2⟩ [awI] 255 ⟨0,1,2,2⟩ 1 1 (.draw awO .nil) baseF).c pxz = _
 unfold evalF
 rw [if_neg (by decide)]
 unfold evalF
 exact base_res
end Go.Proofs.YtepfoelgegljbaaGreatDoor
