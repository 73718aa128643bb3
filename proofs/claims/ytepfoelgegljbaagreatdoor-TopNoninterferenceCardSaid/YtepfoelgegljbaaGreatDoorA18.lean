/- Part A18. -/
import Derived.Test.YtepfoelgegljbaaGreatDoorA17
namespace Go.Proofs.YtepfoelgegljbaaGreatDoor
set_option linter.unusedVariables false
inductive Fo where
 | nil:Fo
 | draw (o:Opr) (r:Fo):Fo
 | grp (o:Opr) (k r:Fo):Fo
def popO:Opr:=⟨3,0,0,0,0,0,0,0,0,0,false,false⟩
def Fo.flat:Fo → List Opr
 | .nil => []
 | .draw o r => o :: r.flat
 | .grp o k r => o :: (k.flat ++ popO :: r.flat)
def conc:List Fo → List Opr
 | [] => []
 | [f] => f.flat
 | f :: g :: r => f.flat ++ popO :: conc (g :: r)
abbrev nearB (l:List Int):Bool:=withinF 1048576 l
def popB (o:Opr):Bool:=o.im == 0 && (o.x == 0 && (o.y == 0 && (o.ms == 0 && (o.mx == 0 && (o.my == 0 && (o.oc == 0 && (o.op == 0 && (o.md == 0 && (o.iso == false && (o.kn == false && true))))))))))
def fieldsB (o:Opr):Bool :=
 if o.k = 3 then popB o
 else if o.k = 1 ∧ (o.iso = true ∨ o.kn = true) then false
 else if o.k = 2 ∧ (o.im ≠ 0 ∨ o.x ≠ 0 ∨ o.y ≠ 0) then false
 else decide (o.ms ≠ 0 ∨ (o.mx = 0 ∧ o.my = 0))
def ctxB (op:List Opr):Bool:=match op.getLast? with
 | none => true
 | some t => t.iso && !t.kn
def opE (n mx:Int) (o:Opr) (op:List Opr):Int :=
 if o.k ≠ 1 ∧ o.k ≠ 2 ∧ o.k ≠ 3 then 9
 else if fieldsB o = false then 10
 else if o.k = 3 ∧ op.length = 0 then 18
 else if o.k = 3 then 0
 else if (o.k = 1 ∧ (o.im < 0 ∨ n ≤ o.im)) ∨ o.ms < 0 ∨ n < o.ms then 11
 else if nearB [o.x,o.y,o.mx,o.my] = false then 12
 else if mx < o.oc then 13
 else if opIs o.op = false then 14
 else if opIs o.md = false then 15
 else if o.op ≠ 4 ∧ ctxB op = false then 16
 else if o.k = 2 ∧ 64 ≤ op.length then 17
 else 0
def opsE (n mx:Int):List Opr → Nat → List Opr → Int × Int
 | [],i,op => if op.length = 0 then (0,0) else (18,i)
 | o :: r,i,op =>
  if opE n mx o op ≠ 0 then (opE n mx o op,i)
  else if o.k = 2 then opsE n mx r (i + 1) (op ++ [o])
  else if o.k = 3 then opsE n mx r (i + 1) op.dropLast
  else opsE n mx r (i + 1) op
def orderOk (l:List Int) (n:Nat):Prop:=l.length = 0 ∨ (l.length = n ∧ (∀ v ∈ l,0 ≤ v ∧ v < n) ∧ l.Nodup)
instance (l:List Int) (n:Nat):Decidable (orderOk l n):=by unfold orderOk; infer_instance
def orderF (l:List Int) (n:Nat):List Int:=if l.length = 0 then (List.range n).map (fun i:Nat => (i:Int)) else l
structure Scr.Sm (s:Scr):Prop where
 w0:s.can.x < s.can.u
 w1:s.can.u ≤ s.can.x + 5
 h0:s.can.y < s.can.v
 h1:s.can.v ≤ s.can.y + 5
 x0:-1048576 ≤ s.can.x
 x1:s.can.x ≤ 1048576
 y0:-1048576 ≤ s.can.y
 y1:s.can.y ≤ 1048576
 t0:1 ≤ s.tw
 t1:s.tw ≤ s.can.u - s.can.x
 t2:1 ≤ s.th
 t3:s.th ≤ s.can.v - s.can.y
 i0:s.inn ≤ 64
 p0:s.pn ≤ 100
def Scr.nt (s:Scr):Nat:=(cntX s.can s.tw s.th * cntY s.can s.tw s.th).toNat
def Scr.mx (s:Scr):Int:=maxI s.bits
def frameE (s:Scr):Int:=if maxB s.bits = false then 1 else if orderOk s.ord s.nt then 0 else 4
def imgsE (mx:Int):List Img → Nat → Int × Int
 | [],_ => (0,0)
 | m :: r,i => if validI m mx ≠ 0 then (validI m mx,i) else imgsE mx r (i + 1)
def opsEs (s:Scr):Int × Int:=if frameE s ≠ 0 then (frameE s,0) else opsE s.inn s.mx s.ops 0 []
def checkE (s:Scr):Int × Int:=if frameE s ≠ 0 then (frameE s,0) else if (imgsE s.mx s.ims 0).1 ≠ 0 then imgsE s.mx s.ims 0 else opsEs s
structure Opr.ok (n mx:Int) (free:Bool) (o:Opr):Prop where
 im:o.k = 1 → 0 ≤ o.im ∧ o.im < n
 ms:0 ≤ o.ms ∧ o.ms ≤ n
 nr:nearB [o.x,o.y,o.mx,o.my] = true
 oc:o.oc ≤ mx
 op:opIs o.op = true
 md:opIs o.md = true
 fr:o.op = 4 ∨ free = true
def Opr.free (o:Opr):Bool:=o.iso && !o.kn
def Fo.ok (n mx:Int):Bool → Fo → Prop
 | _,.nil => True
 | b,.draw o r => o.k = 1 ∧ o.ok n mx b ∧ r.ok n mx b
 | b,.grp o k r => o.k = 2 ∧ o.ok n mx b ∧ k.ok n mx o.free ∧ r.ok n mx b
def zRc:Rc:=⟨0,0,0,0⟩
def imAt (l:List Img) (i:Int):Img:=(l[i.toNat]?).getD ⟨0,0,false,⟨0,0,0,0,0⟩,⟨0,0,0,none,0,0,[]⟩,⟨0,0,0,none,0,0,[]⟩,⟨0,0,0,none,0,0,[]⟩,⟨0,0,0,none,0,0,[]⟩,⟨0,0,0,none,0,0,[]⟩⟩
def placedF (can:Rc) (l:List Img) (i x y:Int):Rc:=Rc.inter ⟨x,y,x + (imAt l i).w,y + (imAt l i).h⟩ can
def maskRc (can:Rc) (l:List Img) (o:Opr):Rc:=if o.ms = 0 then can.inter can else placedF can l (o.ms - 1) o.mx o.my
def boxF (can:Rc) (l:List Img) (o:Opr) (src:Rc):Rc:=if neuB o.op = false then can else if o.oc = 0 then zRc else src.inter (maskRc can l o)
def dBox (can:Rc) (l:List Img) (o:Opr):Rc:=boxF can l o (placedF can l o.im o.x o.y)
def hullFo (can:Rc) (l:List Img):Fo → Rc → Rc
 | .nil,h => h
 | .draw o r,h => hullFo can l r (hull1 (hull1 zRc h) (dBox can l o))
 | .grp o k r,h => hullFo can l r (hull1 (hull1 zRc h) (boxF can l o (hullFo can l k zRc)))
def gBox (can:Rc) (l:List Img) (o:Opr) (k:Fo):Rc:=boxF can l o (hullFo can l k zRc)
def hits (b r:Rc):Bool:=!(b.inter r).emp
structure Fr where
 o:Opr
 c:Ac
 b:Px
def acz:Ac:=⟨0,0,0,0,0,0⟩
def beginC (iso kn:Bool) (c:Ac) (b:Px):Px:=if iso then pxz else if kn then b else ⟨c.x,c.y,c.z,c.a,c.a⟩
def beginA (b:Px):Ac:=⟨b.x,b.y,b.z,b.a,0,0⟩
def Fr.push (f:Fr) (o:Opr):Fr:=⟨o,beginA (beginC o.iso f.o.kn f.c f.b),beginC o.iso f.o.kn f.c f.b⟩
def kAt (l:List Img) (mx:Int) (o:Opr) (X Y:Int):Int:=if o.ms = 0 then mx else (atF (imAt l (o.ms - 1)) (X - o.mx) (Y - o.my)).a
def sAt (l:List Img) (o:Opr) (X Y:Int):Px:=atF (imAt l o.im) (X - o.x) (Y - o.y)
noncomputable def Fr.paint (l:List Img) (mx:Int) (X Y:Int) (f:Fr) (o:Opr) (p:Px):Fr:=⟨f.o,stepF f.o.kn o.op o.md mx (bothF mx o.oc (kAt l mx o X Y) p) f.c f.b,f.b⟩
noncomputable def evalF (can:Rc) (l:List Img) (mx:Int) (R:Rc) (X Y:Int):Fo → Fr → Fr
 | .nil,f => f
 | .draw o r,f => evalF can l mx R X Y r (if hits (dBox can l o) R then f.paint l mx X Y o (sAt l o X Y) else f)
 | .grp o k r,f => evalF can l mx R X Y r (if hits (gBox can l o k) R then f.paint l mx X Y o (resF mx (evalF can l mx R X Y k (f.push o)).c (f.push o).b) else f)
def baseO:Opr:=⟨2,0,0,0,0,0,0,0,0,0,true,false⟩
def baseF:Fr:=⟨baseO,acz,pxz⟩
noncomputable def ptF (can:Rc) (l:List Img) (mx:Int) (R:Rc) (F:Fo) (X Y:Int):Px:=resF mx (evalF can l mx R X Y F baseF).c pxz
noncomputable def tileW (can:Rc) (l:List Img) (mx:Int) (F:Fo) (g:Nat → Nat → Px) (R:Rc):Nat → Nat → Px:=fun j i =>
 if R.x ≤ can.x + i ∧ can.x + i < R.u ∧ R.y ≤ can.y + j ∧ can.y + j < R.v then ptF can l mx R F (can.x + i) (can.y + j) else g j i
def Scr.tls (s:Scr):List Rc:=(orderF s.ord s.nt).map (tRect s.can s.tw s.th)
noncomputable def Scr.gF (s:Scr) (F:Fo):Nat → Nat → Px:=s.tls.foldl (tileW s.can s.ims s.mx F) (fun _ _ => pxz)
def Scr.wd (s:Scr):Nat:=(s.can.u - s.can.x).toNat
def Scr.ht (s:Scr):Nat:=(s.can.v - s.can.y).toNat
noncomputable def Scr.img (s:Scr) (F:Fo):List Px:=(List.range s.ht).flatMap fun j => (List.range s.wd).map fun i => s.gF F j i
set_option maxRecDepth 100000
open Go.RowKit
set_option maxHeartbeats 2000000 in
theorem near_call (l:List Int) (n:Nat) (hn:n ≤ 1000) (ln:l.length = n) (A:Option Addr) (c:Nat) (w:World) (h:Sl w 1 n A (ints64 l)) :
  Calls Tryz.prog 50 #[.slice A n c] w fun e w' => e = .returned (.bool (nearB l)) ∧ w = w':=by
 unfold nearB
 have h':=hd_ h
 have ln':=hd_ ln
 clear h ln
 go_enter Tryz.func50,Tryz.ntmps50
 go_wp2_with fail
 go_loopg [7] n (fun gk s7 wr => ∃ i:Nat,i + gk = n ∧ s7 = .int .i64 i ∧ wr = w ∧ withinF 1048576 (l.take i) = true)
 case atStart => exact ⟨0,by omega,rfl,rfl,rfl⟩
 case round =>
  obtain ⟨i,hgk,rfl,rfl,hW⟩:=hrel
  have HW:=hd_ hW
  clear hW
  by_cases hlt:i < n
  case neg =>
   go_wp2_with fail
   obtain rfl:i = n:=by omega
   go_returns
   have e:=HW.out
   rw [List.take_of_length_le (by rw [ln'.out]; omega)] at e
   exact ⟨by rw [e]; rfl,rfl⟩
  case pos =>
   obtain ⟨v,ev⟩:∃ v,l[i]? = some v:=⟨l[i]'(by have:=ln'.out; omega),List.getElem?_eq_getElem _⟩
   obtain ⟨g,off,rfl,hc⟩:=h'.out.2 (by omega)
   have d0:=hc i (.int .i64 v) (by simp [ints64,ev])
   have hbad:¬ (-1048576 ≤ v ∧ v ≤ 1048576) → withinF 1048576 l = false:=fun h => by
    apply Bool.eq_false_iff.2
    intro hc
    exact h (by simpa using (List.all_eq_true.1 hc) v (List.mem_of_getElem? ev))
   have HB:=hd_ hbad
   have EV:=hd_ ev
   clear hc hbad ev
   by_cases h1:v < -1048576
   ·go_wp2_with fail
    go_returns
    exact ⟨by rw [HB.out (by omega)]; rfl,rfl⟩
   ·by_cases h2:1048576 < v
    ·go_wp2_with fail
     go_returns
     exact ⟨by rw [HB.out (by omega)]; rfl,rfl⟩
    ·go_wp2_with fail
     go_roundg (gk - 1)
     case measure => omega
     case rel =>
      refine ⟨i + 1,by omega,by go_num,rfl,?_⟩
      rw [take_snoc EV.out]
      have e:=HW.out
      unfold withinF at e ⊢
      rw [List.all_append,e]
      simp
      omega
theorem ctx_snoc (l:List Opr) (t:Opr):ctxB (l ++ [t]) = (t.iso && !t.kn):=by unfold ctxB; rw [List.getLast?_append]; simp
set_option maxHeartbeats 2000000 in
theorem context_nil (A:Option Addr) (c:Nat) (w:World):Calls Tryz.prog 72 #[.slice A 0 c] w fun e w' => e = .returned (.bool true) ∧ Bel w w':=by
 go_enter Tryz.func72,Tryz.ntmps72
 go_wp2_with fail
 go_returns
 exact ⟨rfl,Bel.refl w⟩
set_option maxHeartbeats 2000000 in
theorem context_snoc (l:List Opr) (t:Opr) (m:Nat) (hm:m ≤ 1000) (hl:l.length = m) (A:Option Addr) (c:Nat) (w:World) (h:Sl w 12 (m + 1) A (oprs (l ++ [t]))):Calls Tryz.prog 72 #[.slice A (m + 1:Nat) c] w fun e w' => e = .returned (.bool (t.iso && !t.kn)) ∧ Bel w w':=by
 obtain ⟨g,off,rfl,d0,d1,d2,d3,d4,d5,d6,d7,d8,d9,d10,d11⟩:=h.op (i:=m) (p:=t) (by rw [← hl]; simp) (by omega)
 have d12:w.cell? ⟨g,off + m * 12,none⟩ = some (.int .i64 t.k):=d0
 have hz:(((m + 1:Nat):Int) == 0) = false:=beq_eq_false_iff_ne.2 (by omega)
 have hb1:t.iso = t.iso:=rfl
 clear hl h
 cases hi:t.iso <;> cases hk:t.kn
 all_goals
  rw [hi] at d10
  rw [hk] at d11
  have HI:=hd_ (And.intro hi hk)
  clear hi hk hb1
  go_enter Tryz.func72,Tryz.ntmps72
  go_wp2_with fail
  go_returns
  exact ⟨rfl,(Bel.refl w).al _⟩
theorem context_call (l:List Opr) (n:Nat) (hn:n ≤ 1000) (hl:l.length = n) (A:Option Addr) (c:Nat) (w:World) (h:Sl w 12 n A (oprs l)):Calls Tryz.prog 72 #[.slice A n c] w fun e w' => e = .returned (.bool (ctxB l)) ∧ Bel w w':=by
 rcases List.eq_nil_or_concat l with rfl | ⟨l',t,rfl⟩
 ·obtain rfl:n = 0:=by simpa using hl.symm
  exact context_nil A c w
 ·rw [List.concat_eq_append] at hl h ⊢
  rw [ctx_snoc]
  obtain ⟨m,rfl⟩:∃ m,n = m + 1:=⟨l'.length,by rw [← hl]; simp⟩
  exact context_snoc l' t m (by omega) (by simpa using hl) A c w h
theorem eqF_cons {P:Program} {d:Nat} {xs ys:Array Value} {f:Field} {fs:List Field} {w:World} {a b:Value} {r B:Bool} (hn:f.name ≠ "_") (ha:(part f.type xs f.offset).run P w = .ok a w) (hb:(part f.type ys f.offset).run P w = .ok b w)
  (hr:(Op.equalIn d f.type a b).run P w = .ok r w) (h:(Op.eqFields d xs ys fs).run P w = .ok B w):(Op.eqFields d xs ys (f :: fs)).run P w = .ok (r && B) w:=by
 simp only [Op.eqFields,if_pos hn,Sem.run_bind,ha,hb,hr,Result.andThen_ok]
 cases r
 ·simp
 ·simpa using h
theorem eql_pop (o:Opr) (hk:o.k = 3) (w:World):(binOp .eql 29 (.agg #[.int .i64 o.k,.int .i64 o.im,.int .i64 o.x,.int .i64 o.y,.int .i64 o.ms,.int .i64 o.mx,.int .i64 o.my,.int .u16 o.oc,.int .i64 o.op,.int .i64 o.md,.bool o.iso,.bool o.kn]) (.agg #[.int .i64 3,.int .i64 0,.int .i64 0,.int .i64 0,.int .i64 0,.int .i64 0,.int .i64 0,.int .u16 0,.int .i64 0,.int .i64 0,.bool false,.bool false])).run Tryz.prog w = .ok (.bool (popB o)) w:=by
 have hI:∀ (a b:Int),(Op.equalIn (9998 + 1) 3 (.int .i64 a) (.int .i64 b)).run Tryz.prog w = .ok (a == b) w:=fun a b => run_equalIn_int w _ _ .i64 .i64 a b Tryz.underlying3
 have hU:∀ (a b:Int),(Op.equalIn (9998 + 1) 27 (.int .u16 a) (.int .u16 b)).run Tryz.prog w = .ok (a == b) w:=fun a b => run_equalIn_int w _ _ .u16 .u16 a b Tryz.underlying27
 have hB:∀ (a b:Bool),(Op.equalIn (9998 + 1) 4 (.bool a) (.bool b)).run Tryz.prog w = .ok (a == b) w:=fun a b => run_equalIn_bool' w _ _ a b Tryz.underlying4
 rw [run_eql_struct,show (10000:Nat) = 9999 + 1 from rfl,run_equalIn_struct w 9999 29 _ _ (by kernel_rfl) (by kernel_rfl)]
 simp only [Program.fieldsOf,Tryz.underlying29]
 refine Eq.trans (congrArg (fun r => Result.andThen r fun b w' => Result.ok (Value.bool b) w') (?e:_ = Result.ok (o.k == 3 && popB o) w)) ?_
 case e =>
  unfold popB
  exact (eqF_cons (by decide) (by kernel_rfl) (by kernel_rfl) (hI _ _) (eqF_cons (by decide) (by kernel_rfl) (by kernel_rfl) (hI _ _) (eqF_cons (by decide) (by kernel_rfl) (by kernel_rfl) (hI _ _) (eqF_cons (by decide) (by kernel_rfl) (by kernel_rfl) (hI _ _) (eqF_cons (by decide) (by kernel_rfl) (by kernel_rfl) (hI _ _) (eqF_cons (by decide) (by kernel_rfl) (by kernel_rfl) (hI _ _) (eqF_cons (by decide) (by kernel_rfl) (by kernel_rfl) (hI _ _) (eqF_cons (by decide) (by kernel_rfl) (by kernel_rfl) (hU _ _) (eqF_cons (by decide) (by kernel_rfl) (by kernel_rfl) (hI _ _) (eqF_cons (by decide) (by kernel_rfl) (by kernel_rfl) (hI _ _) (eqF_cons (by decide) (by kernel_rfl) (by kernel_rfl) (hB _ _) (eqF_cons (by decide) (by kernel_rfl) (by kernel_rfl) (hB _ _) (by simp [Op.eqFields])))))))))))))
 simp [Result.andThen,hk]
theorem tlVVal0 {p:Prop} (h:p:=by
  rintro V ⟨hX,eM⟩
  have Ms:=lt_of_heap eM
  have M_0:=cq0 eM rfl
  have M_1:=cq1 eM rfl
  have M_2:=cq2 eM rfl
  have M_3:=cq3 eM rfl
  have M_4:=cq4 eM rfl
  have M_5:=cq5 eM rfl
  have M_6:=cq6 eM rfl
  have M_7:=cq7 eM rfl
  have M_8:=cq8 eM rfl
  have M_9:=cq9 eM rfl
  have M_10:=cq10 eM rfl
  have M_11:=cq11 eM rfl
  have fM:=frozA eM
  go_wp2_with (first | ((with_reducible show wpList _ _ _ (⟨some 7,_,_,_,_,_⟩ :: _) _ _); refine wpList_ld rfl rfl rfl (opr_ld eM) ?_) | fail)
  go_returns
  exact ⟨rfl,hX⟩):p:=h
set_option maxHeartbeats 2000000 in
theorem fields_p (im:Int) (x:Int) (y:Int) (ms:Int) (mx:Int) (my:Int) (oc:Int) (op:Int) (md:Int) (iso:Bool) (kn:Bool)  (w:World):Calls Tryz.prog 69 #[.agg #[.int .i64 3,.int .i64 im,.int .i64 x,.int .i64 y,.int .i64 ms,.int .i64 mx,.int .i64 my,.int .u16 oc,.int .i64 op,.int .i64 md,.bool iso,.bool kn]] w fun e w' => e = .returned (.bool (popB ⟨3,im,x,y,ms,mx,my,oc,op,md,iso,kn⟩)) ∧ Bel w w':=by
 have hE:=eql_pop ⟨3,im,x,y,ms,mx,my,oc,op,md,iso,kn⟩ rfl
 generalize hP:popB ⟨3,im,x,y,ms,mx,my,oc,op,md,iso,kn⟩ = PB at *
 clear hP
 go_enter Tryz.func69,Tryz.ntmps69
 go_upto_region 1 with fail
 refine at_world (fun V => Bel w V ∧ V.heap[w.heap.size]? = some (.cells #[.int .i64 3,.int .i64 im,.int .i64 x,.int .i64 y,.int .i64 ms,.int .i64 mx,.int .i64 my,.int .u16 oc,.int .i64 op,.int .i64 md,.bool iso,.bool kn] 29)) ⟨(Bel.refl w).al _,at_new (by first | rfl | simp)⟩ ?_
 exact tlVVal0
set_option maxHeartbeats 2000000 in
theorem fields_d1 (im:Int) (x:Int) (y:Int) (ms:Int) (mx:Int) (my:Int) (oc:Int) (op:Int) (md:Int) (kn:Bool)  (w:World):Calls Tryz.prog 69 #[.agg #[.int .i64 1,.int .i64 im,.int .i64 x,.int .i64 y,.int .i64 ms,.int .i64 mx,.int .i64 my,.int .u16 oc,.int .i64 op,.int .i64 md,.bool true,.bool kn]] w fun e w' => e = .returned (.bool false) ∧ Bel w w':=by
 go_enter Tryz.func69,Tryz.ntmps69
 go_upto_region 1 with fail
 refine at_world (fun V => Bel w V ∧ V.heap[w.heap.size]? = some (.cells #[.int .i64 1,.int .i64 im,.int .i64 x,.int .i64 y,.int .i64 ms,.int .i64 mx,.int .i64 my,.int .u16 oc,.int .i64 op,.int .i64 md,.bool true,.bool kn] 29)) ⟨(Bel.refl w).al _,at_new (by first | rfl | simp)⟩ ?_
 exact tlVVal0
set_option maxHeartbeats 2000000 in
theorem fields_d2 (im:Int) (x:Int) (y:Int) (ms:Int) (mx:Int) (my:Int) (oc:Int) (op:Int) (md:Int)  (w:World):Calls Tryz.prog 69 #[.agg #[.int .i64 1,.int .i64 im,.int .i64 x,.int .i64 y,.int .i64 ms,.int .i64 mx,.int .i64 my,.int .u16 oc,.int .i64 op,.int .i64 md,.bool false,.bool true]] w fun e w' => e = .returned (.bool false) ∧ Bel w w':=by
 go_enter Tryz.func69,Tryz.ntmps69
 go_upto_region 1 with fail
 refine at_world (fun V => Bel w V ∧ V.heap[w.heap.size]? = some (.cells #[.int .i64 1,.int .i64 im,.int .i64 x,.int .i64 y,.int .i64 ms,.int .i64 mx,.int .i64 my,.int .u16 oc,.int .i64 op,.int .i64 md,.bool false,.bool true] 29)) ⟨(Bel.refl w).al _,at_new (by first | rfl | simp)⟩ ?_
 exact tlVVal0
set_option maxHeartbeats 2000000 in
theorem fields_da (im:Int) (x:Int) (y:Int) (ms:Int) (mx:Int) (my:Int) (oc:Int) (op:Int) (md:Int) (h0:ms ≠ 0) (w:World):Calls Tryz.prog 69 #[.agg #[.int .i64 1,.int .i64 im,.int .i64 x,.int .i64 y,.int .i64 ms,.int .i64 mx,.int .i64 my,.int .u16 oc,.int .i64 op,.int .i64 md,.bool false,.bool false]] w fun e w' => e = .returned (.bool true) ∧ Bel w w':=by
 have nb0:(ms == 0) = false:=beq_eq_false_iff_ne.2 h0
 have nc0:(ms != 0) = true:=by rw [bne,nb0]; rfl
 clear h0
 go_enter Tryz.func69,Tryz.ntmps69
 go_upto_region 1 with fail
 refine at_world (fun V => Bel w V ∧ V.heap[w.heap.size]? = some (.cells #[.int .i64 1,.int .i64 im,.int .i64 x,.int .i64 y,.int .i64 ms,.int .i64 mx,.int .i64 my,.int .u16 oc,.int .i64 op,.int .i64 md,.bool false,.bool false] 29)) ⟨(Bel.refl w).al _,at_new (by first | rfl | simp)⟩ ?_
 exact tlVVal0
set_option maxHeartbeats 2000000 in
theorem fields_db (im:Int) (x:Int) (y:Int) (mx:Int) (my:Int) (oc:Int) (op:Int) (md:Int) (h0:mx ≠ 0) (w:World):Calls Tryz.prog 69 #[.agg #[.int .i64 1,.int .i64 im,.int .i64 x,.int .i64 y,.int .i64 0,.int .i64 mx,.int .i64 my,.int .u16 oc,.int .i64 op,.int .i64 md,.bool false,.bool false]] w fun e w' => e = .returned (.bool false) ∧ Bel w w':=by
 have nb0:(mx == 0) = false:=beq_eq_false_iff_ne.2 h0
 have nc0:(mx != 0) = true:=by rw [bne,nb0]; rfl
 clear h0
 go_enter Tryz.func69,Tryz.ntmps69
 go_upto_region 1 with fail
 refine at_world (fun V => Bel w V ∧ V.heap[w.heap.size]? = some (.cells #[.int .i64 1,.int .i64 im,.int .i64 x,.int .i64 y,.int .i64 0,.int .i64 mx,.int .i64 my,.int .u16 oc,.int .i64 op,.int .i64 md,.bool false,.bool false] 29)) ⟨(Bel.refl w).al _,at_new (by first | rfl | simp)⟩ ?_
 exact tlVVal0
set_option maxHeartbeats 2000000 in
theorem fields_dc (im:Int) (x:Int) (y:Int) (my:Int) (oc:Int) (op:Int) (md:Int) (h0:my ≠ 0) (w:World):Calls Tryz.prog 69 #[.agg #[.int .i64 1,.int .i64 im,.int .i64 x,.int .i64 y,.int .i64 0,.int .i64 0,.int .i64 my,.int .u16 oc,.int .i64 op,.int .i64 md,.bool false,.bool false]] w fun e w' => e = .returned (.bool false) ∧ Bel w w':=by
 have nb0:(my == 0) = false:=beq_eq_false_iff_ne.2 h0
 have nc0:(my != 0) = true:=by rw [bne,nb0]; rfl
 clear h0
 go_enter Tryz.func69,Tryz.ntmps69
 go_upto_region 1 with fail
 refine at_world (fun V => Bel w V ∧ V.heap[w.heap.size]? = some (.cells #[.int .i64 1,.int .i64 im,.int .i64 x,.int .i64 y,.int .i64 0,.int .i64 0,.int .i64 my,.int .u16 oc,.int .i64 op,.int .i64 md,.bool false,.bool false] 29)) ⟨(Bel.refl w).al _,at_new (by first | rfl | simp)⟩ ?_
 exact tlVVal0
set_option maxHeartbeats 2000000 in
theorem fields_dd (im:Int) (x:Int) (y:Int) (oc:Int) (op:Int) (md:Int)  (w:World):Calls Tryz.prog 69 #[.agg #[.int .i64 1,.int .i64 im,.int .i64 x,.int .i64 y,.int .i64 0,.int .i64 0,.int .i64 0,.int .u16 oc,.int .i64 op,.int .i64 md,.bool false,.bool false]] w fun e w' => e = .returned (.bool true) ∧ Bel w w':=by
 go_enter Tryz.func69,Tryz.ntmps69
 go_upto_region 1 with fail
 refine at_world (fun V => Bel w V ∧ V.heap[w.heap.size]? = some (.cells #[.int .i64 1,.int .i64 im,.int .i64 x,.int .i64 y,.int .i64 0,.int .i64 0,.int .i64 0,.int .u16 oc,.int .i64 op,.int .i64 md,.bool false,.bool false] 29)) ⟨(Bel.refl w).al _,at_new (by first | rfl | simp)⟩ ?_
 exact tlVVal0
set_option maxHeartbeats 2000000 in
theorem fields_g1 (im:Int) (x:Int) (y:Int) (ms:Int) (mx:Int) (my:Int) (oc:Int) (op:Int) (md:Int) (iso:Bool) (kn:Bool) (h0:im ≠ 0) (w:World):Calls Tryz.prog 69 #[.agg #[.int .i64 2,.int .i64 im,.int .i64 x,.int .i64 y,.int .i64 ms,.int .i64 mx,.int .i64 my,.int .u16 oc,.int .i64 op,.int .i64 md,.bool iso,.bool kn]] w fun e w' => e = .returned (.bool false) ∧ Bel w w':=by
 have nb0:(im == 0) = false:=beq_eq_false_iff_ne.2 h0
 have nc0:(im != 0) = true:=by rw [bne,nb0]; rfl
 clear h0
 go_enter Tryz.func69,Tryz.ntmps69
 go_upto_region 1 with fail
 refine at_world (fun V => Bel w V ∧ V.heap[w.heap.size]? = some (.cells #[.int .i64 2,.int .i64 im,.int .i64 x,.int .i64 y,.int .i64 ms,.int .i64 mx,.int .i64 my,.int .u16 oc,.int .i64 op,.int .i64 md,.bool iso,.bool kn] 29)) ⟨(Bel.refl w).al _,at_new (by first | rfl | simp)⟩ ?_
 exact tlVVal0
set_option maxHeartbeats 2000000 in
theorem fields_g2 (x:Int) (y:Int) (ms:Int) (mx:Int) (my:Int) (oc:Int) (op:Int) (md:Int) (iso:Bool) (kn:Bool) (h0:x ≠ 0) (w:World):Calls Tryz.prog 69 #[.agg #[.int .i64 2,.int .i64 0,.int .i64 x,.int .i64 y,.int .i64 ms,.int .i64 mx,.int .i64 my,.int .u16 oc,.int .i64 op,.int .i64 md,.bool iso,.bool kn]] w fun e w' => e = .returned (.bool false) ∧ Bel w w':=by
 have nb0:(x == 0) = false:=beq_eq_false_iff_ne.2 h0
 have nc0:(x != 0) = true:=by rw [bne,nb0]; rfl
 clear h0
 go_enter Tryz.func69,Tryz.ntmps69
 go_upto_region 1 with fail
 refine at_world (fun V => Bel w V ∧ V.heap[w.heap.size]? = some (.cells #[.int .i64 2,.int .i64 0,.int .i64 x,.int .i64 y,.int .i64 ms,.int .i64 mx,.int .i64 my,.int .u16 oc,.int .i64 op,.int .i64 md,.bool iso,.bool kn] 29)) ⟨(Bel.refl w).al _,at_new (by first | rfl | simp)⟩ ?_
 exact tlVVal0
set_option maxHeartbeats 2000000 in
theorem fields_g3 (y:Int) (ms:Int) (mx:Int) (my:Int) (oc:Int) (op:Int) (md:Int) (iso:Bool) (kn:Bool) (h0:y ≠ 0) (w:World):Calls Tryz.prog 69 #[.agg #[.int .i64 2,.int .i64 0,.int .i64 0,.int .i64 y,.int .i64 ms,.int .i64 mx,.int .i64 my,.int .u16 oc,.int .i64 op,.int .i64 md,.bool iso,.bool kn]] w fun e w' => e = .returned (.bool false) ∧ Bel w w':=by
 have nb0:(y == 0) = false:=beq_eq_false_iff_ne.2 h0
 have nc0:(y != 0) = true:=by rw [bne,nb0]; rfl
 clear h0
 go_enter Tryz.func69,Tryz.ntmps69
 go_upto_region 1 with fail
 refine at_world (fun V => Bel w V ∧ V.heap[w.heap.size]? = some (.cells #[.int .i64 2,.int .i64 0,.int .i64 0,.int .i64 y,.int .i64 ms,.int .i64 mx,.int .i64 my,.int .u16 oc,.int .i64 op,.int .i64 md,.bool iso,.bool kn] 29)) ⟨(Bel.refl w).al _,at_new (by first | rfl | simp)⟩ ?_
 exact tlVVal0
set_option maxHeartbeats 2000000 in
theorem fields_ga (ms:Int) (mx:Int) (my:Int) (oc:Int) (op:Int) (md:Int) (iso:Bool) (kn:Bool) (h0:ms ≠ 0) (w:World):Calls Tryz.prog 69 #[.agg #[.int .i64 2,.int .i64 0,.int .i64 0,.int .i64 0,.int .i64 ms,.int .i64 mx,.int .i64 my,.int .u16 oc,.int .i64 op,.int .i64 md,.bool iso,.bool kn]] w fun e w' => e = .returned (.bool true) ∧ Bel w w':=by
 have nb0:(ms == 0) = false:=beq_eq_false_iff_ne.2 h0
 have nc0:(ms != 0) = true:=by rw [bne,nb0]; rfl
 clear h0
 go_enter Tryz.func69,Tryz.ntmps69
 go_upto_region 1 with fail
 refine at_world (fun V => Bel w V ∧ V.heap[w.heap.size]? = some (.cells #[.int .i64 2,.int .i64 0,.int .i64 0,.int .i64 0,.int .i64 ms,.int .i64 mx,.int .i64 my,.int .u16 oc,.int .i64 op,.int .i64 md,.bool iso,.bool kn] 29)) ⟨(Bel.refl w).al _,at_new (by first | rfl | simp)⟩ ?_
 exact tlVVal0
set_option maxHeartbeats 2000000 in
theorem fields_gb (mx:Int) (my:Int) (oc:Int) (op:Int) (md:Int) (iso:Bool) (kn:Bool) (h0:mx ≠ 0) (w:World):Calls Tryz.prog 69 #[.agg #[.int .i64 2,.int .i64 0,.int .i64 0,.int .i64 0,.int .i64 0,.int .i64 mx,.int .i64 my,.int .u16 oc,.int .i64 op,.int .i64 md,.bool iso,.bool kn]] w fun e w' => e = .returned (.bool false) ∧ Bel w w':=by
 have nb0:(mx == 0) = false:=beq_eq_false_iff_ne.2 h0
 have nc0:(mx != 0) = true:=by rw [bne,nb0]; rfl
 clear h0
 go_enter Tryz.func69,Tryz.ntmps69
 go_upto_region 1 with fail
 refine at_world (fun V => Bel w V ∧ V.heap[w.heap.size]? = some (.cells #[.int .i64 2,.int .i64 0,.int .i64 0,.int .i64 0,.int .i64 0,.int .i64 mx,.int .i64 my,.int .u16 oc,.int .i64 op,.int .i64 md,.bool iso,.bool kn] 29)) ⟨(Bel.refl w).al _,at_new (by first | rfl | simp)⟩ ?_
 exact tlVVal0
set_option maxHeartbeats 2000000 in
theorem fields_gc (my:Int) (oc:Int) (op:Int) (md:Int) (iso:Bool) (kn:Bool) (h0:my ≠ 0) (w:World):Calls Tryz.prog 69 #[.agg #[.int .i64 2,.int .i64 0,.int .i64 0,.int .i64 0,.int .i64 0,.int .i64 0,.int .i64 my,.int .u16 oc,.int .i64 op,.int .i64 md,.bool iso,.bool kn]] w fun e w' => e = .returned (.bool false) ∧ Bel w w':=by
 have nb0:(my == 0) = false:=beq_eq_false_iff_ne.2 h0
 have nc0:(my != 0) = true:=by rw [bne,nb0]; rfl
 clear h0
 go_enter Tryz.func69,Tryz.ntmps69
 go_upto_region 1 with fail
 refine at_world (fun V => Bel w V ∧ V.heap[w.heap.size]? = some (.cells #[.int .i64 2,.int .i64 0,.int .i64 0,.int .i64 0,.int .i64 0,.int .i64 0,.int .i64 my,.int .u16 oc,.int .i64 op,.int .i64 md,.bool iso,.bool kn] 29)) ⟨(Bel.refl w).al _,at_new (by first | rfl | simp)⟩ ?_
 exact tlVVal0
set_option maxHeartbeats 2000000 in
theorem fields_gd (oc:Int) (op:Int) (md:Int) (iso:Bool) (kn:Bool)  (w:World):Calls Tryz.prog 69 #[.agg #[.int .i64 2,.int .i64 0,.int .i64 0,.int .i64 0,.int .i64 0,.int .i64 0,.int .i64 0,.int .u16 oc,.int .i64 op,.int .i64 md,.bool iso,.bool kn]] w fun e w' => e = .returned (.bool true) ∧ Bel w w':=by
 go_enter Tryz.func69,Tryz.ntmps69
 go_upto_region 1 with fail
 refine at_world (fun V => Bel w V ∧ V.heap[w.heap.size]? = some (.cells #[.int .i64 2,.int .i64 0,.int .i64 0,.int .i64 0,.int .i64 0,.int .i64 0,.int .i64 0,.int .u16 oc,.int .i64 op,.int .i64 md,.bool iso,.bool kn] 29)) ⟨(Bel.refl w).al _,at_new (by first | rfl | simp)⟩ ?_
 exact tlVVal0
theorem fields_call (o:Opr) (hk:o.k = 1 ∨ o.k = 2 ∨ o.k = 3) (w:World):Calls Tryz.prog 69 #[o.v] w fun e w' => e = .returned (.bool (fieldsB o)) ∧ Bel w w':=by
 rcases o with ⟨k,im,x,y,ms,mx,my,oc,op,md,iso,kn⟩
 simp only at hk
 unfold fieldsB
 rcases hk with rfl | rfl | rfl
 ·rw [if_neg (by decide:¬ (1:Int) = 3)]
  cases iso
  ·cases kn
   ·rw [if_neg (by simp),if_neg (by simp)]
    by_cases h1:ms = 0
    ·subst h1
     by_cases h2:mx = 0
     ·subst h2
      by_cases h3:my = 0
      ·subst h3
       exact fields_dd im x y oc op md w
      ·rw [decide_eq_false (by simpa using h3)]
       exact fields_dc im x y my oc op md h3 w
     ·rw [decide_eq_false (by simp [h2])]
      exact fields_db im x y mx my oc op md h2 w
    ·rw [decide_eq_true (.inl h1)]
     exact fields_da im x y ms mx my oc op md h1 w
   ·rw [if_pos (by simp)]
    exact fields_d2 im x y ms mx my oc op md w
  ·rw [if_pos (by simp)]
   exact fields_d1 im x y ms mx my oc op md kn w
 ·rw [if_neg (by decide:¬ (2:Int) = 3),if_neg (by simp)]
  by_cases i0:im = 0
  ·subst i0
   by_cases x0:x = 0
   ·subst x0
    by_cases y0:y = 0
    ·subst y0
     rw [if_neg (by simp)]
     by_cases h1:ms = 0
     ·subst h1
      by_cases h2:mx = 0
      ·subst h2
       by_cases h3:my = 0
       ·subst h3
        exact fields_gd oc op md iso kn w
       ·rw [decide_eq_false (by simpa using h3)]
        exact fields_gc my oc op md iso kn h3 w
      ·rw [decide_eq_false (by simp [h2])]
       exact fields_gb mx my oc op md iso kn h2 w
     ·rw [decide_eq_true (.inl h1)]
      exact fields_ga ms mx my oc op md iso kn h1 w
    ·rw [if_pos (by simp [y0])]
     exact fields_g3 y ms mx my oc op md iso kn y0 w
   ·rw [if_pos (by simp [x0])]
    exact fields_g2 x y ms mx my oc op md iso kn x0 w
  ·rw [if_pos (by simp [i0])]
   exact fields_g1 im x y ms mx my oc op md iso kn i0 w
 ·rw [if_pos rfl]
  exact fields_p im x y ms mx my oc op md iso kn w
theorem Sl.range {α:Type} {f:α → List Value} {W:World} {k n i:Nat} {A:Option Addr} {l:List α} {p:α} (hf:∀ a,(f a).length = k) (h:Sl W k n A (l.flatMap f)) (hi:l[i]? = some p) (hn:i < n) :
  ∃ g off,A = some ⟨g,off,none⟩ ∧ W.rangeAt g (off + i * k) (f p):=by
 obtain ⟨g,off,rfl,hc⟩:=h.2 (by omega)
 refine ⟨g,off,rfl,fun j v hv => ?_⟩
 have hj:j < k:=by rw [← hf p]; exact (List.getElem?_eq_some_iff.1 hv).1
 rw [Nat.add_assoc]
 exact hc _ v ((flat_get hf l i j p hi hj).trans hv)
theorem Sl.opld {W:World} {n i:Nat} {A:Option Addr} {l:List Opr} {p:Opr} (h:Sl W 12 n A (oprs l)) (hi:l[i]? = some p) (hn:i < n) :
  ∃ g off,A = some ⟨g,off,none⟩ ∧ g < W.heap.size ∧ ∀ V,Bel W V → Sem.run Tryz.prog (Instr.loadAt 29 (.pointer (some ⟨g,off + i * 12,none⟩))) V = .ok p.v V:=by
 obtain ⟨g,off,e,hr⟩:=h.range (f:=Opr.cs) (fun _ => rfl) hi hn
 exact ⟨g,off,e,World.block_lt_of_cell? W _ (hr 0 _ rfl),fun V hV => run_loadAt_mid (P:=Tryz.prog) V g (off + i * 12) 29 p.cs _ (fun j v hv => hV.cell (hr j v hv)) Tryz.underlying29 (by rfl) (by kernel_rfl)⟩
theorem Sl.imld {W:World} {n i:Nat} {A:Option Addr} {l:List Img} {p:Img} (h:Sl W 28 n A (imgs l)) (hi:l[i]? = some p) (hn:i < n) :
  ∃ g off,A = some ⟨g,off,none⟩ ∧ g < W.heap.size ∧ ∀ V,Bel W V → Sem.run Tryz.prog (Instr.loadAt 46 (.pointer (some ⟨g,off + i * 28,none⟩))) V = .ok p.v V:=by
 obtain ⟨g,off,e,hr⟩:=h.range (f:=Img.cs) (fun _ => rfl) hi hn
 exact ⟨g,off,e,World.block_lt_of_cell? W _ (hr 0 _ rfl),fun V hV => run_loadAt_mid (P:=Tryz.prog) V g (off + i * 28) 46 p.cs _ (fun j v hv => hV.cell (hr j v hv)) Tryz.underlying46 (by rfl) (by kernel_rfl)⟩
end Go.Proofs.YtepfoelgegljbaaGreatDoor
