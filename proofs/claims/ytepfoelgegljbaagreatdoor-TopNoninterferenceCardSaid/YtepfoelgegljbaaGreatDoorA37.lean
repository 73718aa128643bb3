/- Part A37. -/
import Derived.Test.YtepfoelgegljbaaGreatDoorA36
namespace Go.Proofs.YtepfoelgegljbaaGreatDoor
set_option maxRecDepth 100000
open Go.RowKit
set_option linter.unusedVariables false
set_option linter.unusedSimpArgs false
structure RawD where
 k:Int
 im:Int
 x:Int
 y:Int
 ms:Int
 mx:Int
 my:Int
 oc:Int
 op:Int
 md:Int
 fl:Int
abbrev RawD.cs (d:RawD):List Value:=[.int .i64 d.k,.int .i64 d.im,.int .i64 d.x,.int .i64 d.y,.int .i64 d.ms,.int .i64 d.mx,.int .i64 d.my,.int .i64 d.oc,.int .i64 d.op,.int .i64 d.md,.int .i64 d.fl]
abbrev RawD.v (d:RawD):Value:=.agg #[.int .i64 d.k,.int .i64 d.im,.int .i64 d.x,.int .i64 d.y,.int .i64 d.ms,.int .i64 d.mx,.int .i64 d.my,.int .i64 d.oc,.int .i64 d.op,.int .i64 d.md,.int .i64 d.fl]
structure RawD.ok (d:RawD):Prop where
 k:inR d.k
 im:inR d.im
 x:inR d.x
 y:inR d.y
 ms:inR d.ms
 mx:inR d.mx
 my:inR d.my
 oc:inR d.oc
 op:inR d.op
 md:inR d.md
 fl:inR d.fl
def FB (o:Opr):Prop:=(o.k = 1 → o.iso = false ∧ o.kn = false) ∧ (o.k = 2 → o.im = 0 ∧ o.x = 0 ∧ o.y = 0) ∧ (o.ms = 0 → o.mx = 0 ∧ o.my = 0)
theorem FB.ok {o:Opr} (h:FB o) (hk:o.k = 1 ∨ o.k = 2):fieldsB o = true:=by
 obtain ⟨h1,h2,h3⟩:=h
 unfold fieldsB
 rw [if_neg (by omega),if_neg,if_neg]
 ·apply decide_eq_true
  by_cases hz:o.ms = 0
  ·exact .inr (h3 hz)
  ·exact .inl hz
 ·rintro ⟨e,h⟩
  obtain ⟨a,b,c⟩:=h2 e
  omega
 ·rintro ⟨e,h⟩
  obtain ⟨a,b⟩:=h1 e
  rw [a,b] at h
  simp at h
structure OpG (n:Nat) (mx:Int) (free:Bool) (k:Int) (o:Opr):Prop where
 kk:o.k = k
 ok:o.ok n mx free
 oc:0 ≤ o.oc
 x:-40 ≤ o.x ∧ o.x ≤ 40
 y:-40 ≤ o.y ∧ o.y ≤ 40
 mx:-40 ≤ o.mx ∧ o.mx ≤ 40
 my:-40 ≤ o.my ∧ o.my ≤ 40
 fb:FB o
theorem near_of {x y a b:Int} (h1:-40 ≤ x ∧ x ≤ 40) (h2:-40 ≤ y ∧ y ≤ 40) (h3:-40 ≤ a ∧ a ≤ 40) (h4:-40 ≤ b ∧ b ≤ 40):nearB [x,y,a,b] = true:=by
 unfold nearB withinF
 simp
 omega
theorem OpG.push0 (n:Nat) (mx:Int) (free i k:Bool) (hm0:0 ≤ mx):OpG n mx free 2 ⟨2,0,0,0,0,0,0,mx,4,1,i,k⟩:=by
 have z:(-40:Int) ≤ 0 ∧ (0:Int) ≤ 40:=⟨by decide,by decide⟩
 have zn:(0:Int) ≤ 0 ∧ (0:Int) ≤ (n:Int):=⟨by omega,by omega⟩
 exact ⟨rfl,⟨fun h => absurd (show (2:Int) = 1 from h) (by decide),zn,near_of z z z z,Int.le_refl mx,rfl,rfl,.inl rfl⟩,hm0,z,z,z,z,⟨fun h => absurd (show (2:Int) = 1 from h) (by decide),fun _ => ⟨rfl,rfl,rfl⟩,fun _ => ⟨rfl,rfl⟩⟩⟩
theorem OpG.draw0 (n:Nat) (mx:Int) (free:Bool) (hm0:0 ≤ mx) (im vx vy:Int) (i0:0 ≤ im) (i1:im < n) (hx:-40 ≤ vx ∧ vx ≤ 40) (hy:-40 ≤ vy ∧ vy ≤ 40):OpG n mx free 1 ⟨1,im,vx,vy,0,0,0,mx,4,1,false,false⟩:=by
 have z:(-40:Int) ≤ 0 ∧ (0:Int) ≤ 40:=⟨by decide,by decide⟩
 have zn:(0:Int) ≤ 0 ∧ (0:Int) ≤ (n:Int):=⟨by omega,by omega⟩
 exact ⟨rfl,⟨fun _ => ⟨i0,i1⟩,zn,near_of hx hy z z,Int.le_refl mx,rfl,rfl,.inl rfl⟩,hm0,hx,hy,z,z,⟨fun _ => ⟨rfl,rfl⟩,fun h => absurd (show (1:Int) = 2 from h) (by decide),fun _ => ⟨rfl,rfl⟩⟩⟩
theorem OpG.mask {n:Nat} {mx:Int} {free:Bool} {k:Int} {o:Opr} (h:OpG n mx free k o) (m a b:Int) (m1:1 ≤ m) (m2:m ≤ n) (ha:-40 ≤ a ∧ a ≤ 40) (hb:-40 ≤ b ∧ b ≤ 40):OpG n mx free k { o with ms:=m,mx:=a,my:=b } :=
 ⟨h.kk,⟨h.ok.im,⟨by show 0 ≤ m; omega,m2⟩,near_of h.x h.y ha hb,h.ok.oc,h.ok.op,h.ok.md,h.ok.fr⟩,h.oc,h.x,h.y,ha,hb,⟨h.fb.1,h.fb.2.1,fun (e:m = 0) => by omega⟩⟩
theorem OpG.opac {n:Nat} {mx:Int} {free:Bool} {k:Int} {o:Opr} (h:OpG n mx free k o) (c:Int) (c1:0 ≤ c) (c2:c ≤ mx):OpG n mx free k { o with oc:=c } :=
 ⟨h.kk,⟨h.ok.im,h.ok.ms,h.ok.nr,c2,h.ok.op,h.ok.md,h.ok.fr⟩,c1,h.x,h.y,h.mx,h.my,h.fb⟩
theorem opIs_of {c:Int} (h1:1 ≤ c) (h2:c ≤ 12):opIs c = true:=by unfold opIs; simp; omega
theorem OpG.mode {n:Nat} {mx:Int} {free:Bool} {k:Int} {o:Opr} (h:OpG n mx free k o) (c:Int) (c1:1 ≤ c) (c2:c ≤ 12):OpG n mx free k { o with md:=c } :=
 ⟨h.kk,⟨h.ok.im,h.ok.ms,h.ok.nr,h.ok.oc,h.ok.op,opIs_of c1 c2,h.ok.fr⟩,h.oc,h.x,h.y,h.mx,h.my,h.fb⟩
theorem OpG.oper {n:Nat} {mx:Int} {k:Int} {o:Opr} (h:OpG n mx true k o) (c:Int) (c1:1 ≤ c) (c2:c ≤ 12):OpG n mx true k { o with op:=c } :=
 ⟨h.kk,⟨h.ok.im,h.ok.ms,h.ok.nr,h.ok.oc,opIs_of c1 c2,h.ok.md,.inr rfl⟩,h.oc,h.x,h.y,h.mx,h.my,h.fb⟩
structure OpI (w:World) (T:Nat) (d:RawD) (r:Rc) (Z:World) (o:Opr):Prop where
 hX:Bel w Z
 eD:Z.heap[w.heap.size]? = some (.cells #[.int .i64 d.k,.int .i64 d.im,.int .i64 d.x,.int .i64 d.y,.int .i64 d.ms,.int .i64 d.mx,.int .i64 d.my,.int .i64 d.oc,.int .i64 d.op,.int .i64 d.md,.int .i64 d.fl] 83)
 eC:Z.heap[w.heap.size + 1]? = some (.cells #[.int .i64 r.x,.int .i64 r.y,.int .i64 r.u,.int .i64 r.v] 34)
 eR:Z.heap[w.heap.size + 1 + 1]? = some (.cells #[.int .i64 0,.int .i64 0,.int .i64 0,.int .i64 0,.int .i64 0,.int .i64 0,.int .i64 0,.int .u16 0,.int .i64 0,.int .i64 0,.bool false,.bool false] 29)
 eO:Z.heap[T]? = some (oOp o)
 tT:w.heap.size + 1 + 1 < T
theorem OpI.upd {w Z Z':World} {T:Nat} {d:RawD} {r:Rc} {o o':Opr} (h:OpI w T d r Z o) (hu:Upd T Z Z') (e:Z'.heap[T]? = some (.cells o'.cs.toArray 29)):OpI w T d r Z' o' :=
 ⟨hu.bel h.hX (by have:=h.tT; omega),hu.heap h.eD (by have:=h.tT; omega),hu.heap h.eC (by have:=h.tT; omega),hu.heap h.eR (by have:=h.tT; omega),e,h.tT⟩
theorem Upd.refl (g:Nat) (w:World):Upd g w w:=⟨rfl,rfl,rfl,rfl,fun _ _ => rfl⟩
theorem Upd.trans {g:Nat} {u v w:World} (h:Upd g u v) (k:Upd g v w):Upd g u w:=⟨k.os.trans h.os,k.tape.trans h.tape,k.output.trans h.output,k.size.trans h.size,fun b hb => (k.block b hb).trans (h.block b hb)⟩
theorem Upd.dr {g:Nat} {u v:World} (h:Upd g u v):Upd g u v.drew:=⟨h.os,h.tape,h.output,h.size,h.block⟩
theorem Upd.set {g:Nat} {u v:World} (h:Upd g u v) (i:Nat) (x:Value):Upd g u (v.setCell ⟨g,i,none⟩ x):=h.trans (setCells_upd g [x] i v)
theorem Kp.dr {g:Nat} {w W:World} (h:Kp g w W):Kp g w W.drew:=h.bel (Bel.refl W).dr
theorem Kp.st {g:Nat} {w W:World} (h:Kp g w W) (i:Nat) (x:Value):Kp g w (W.setCell ⟨g,i,none⟩ x):=h.upd (setCells_upd g [x] i W)
theorem tlWOp0 {p:Prop} (h:p:=by
  obtain ⟨o,eR6,G,hX6⟩:=hcut
  have HE6:=hd_ eR6
  have HX6:=hd_ hX6
  have HG:=hd_ G
  clear eR6 hX6 G
  have hK:=‹∀ (a:Act) (w:World),Code.wp Tryz.prog Code.ret _ a w → _›
  refine hK _ _ ?_
  refine wp_ret ?_
  refine bodyPost_ret (v:=o.v) (results_row1 (fn:=Tryz.f27) rfl _ _ (w.heap.size + 1 + 1) 29 o.cs.toArray (0,0) _ rfl HE6.out Tryz.underlying29 rfl (by kernel_rfl)) rfl ⟨o,rfl,HG.out,HX6.out⟩):p:=h
theorem tlWOp1 {p:Prop} (h:p:=by
  go_wp2_with (first | ((with_reducible show wpList _ _ _ (⟨some 102,_,_,_,_,_⟩ :: _) _ _); refine wpList_ld rfl rfl rfl (lop) ?_) | ((with_reducible show wpList _ _ _ (⟨none,.store _ _ _,_,_,_,_⟩ :: _) _ _); refine wpList_st (n:=0) (g:=w.heap.size + 1 + 1) (cells:=o.cs) rfl rfl rfl rfl eR rfl (by kernel_rfl) (op_one o) ?_; intro W6 eR6 hU6) | fail)
  go_meet
  exact ⟨o,eR6,HG.out,hU6.bel hX0 (by omega)⟩):p:=h
set_option maxHeartbeats 16000000 in
theorem gop_ex (d:RawD) (push:Bool) (n:Nat) (r:Rc) (free:Bool) (mx:Int) (hmx:mx = 255 ∨ mx = 65535) (hd:d.ok) (n1:1 ≤ n) (n2:n ≤ 10) (b0:-20 ≤ r.x) (b1:r.x ≤ 20) (c0:-20 ≤ r.y) (c1:r.y ≤ 20) (w:World) :
  Calls Tryz.prog 27 #[d.v,.bool push,.int .i64 n,r.val,.bool free,.int .u16 mx] w fun e w' => ∃ o:Opr,e = .returned o.v ∧ OpG n mx free (if push then 2 else 1) o ∧ Bel w w':=by
 have hM:=hd_ (fun (x k:Int) (h0:1 ≤ k) (h1:k ≤ 4611686018427387903) (W:World) => mod_call x k W h0 h1)
 have hOf:=hd_ (fun (x c:Int) (hx:inR x) (c0:-20 ≤ c) (c1:c ≤ 20) (W:World) => offset_ex x c hx.1 hx.2 (by omega) (by omega) W)
 have hS:=hd_ (fun (x:Int) (hx:inR x) (W:World) => sample_call x mx W (by omega) (by omega) hx.1 hx.2)
 have HD:=hd_ hd
 have HMX:=hd_ hmx
 have hm0:0 ≤ mx:=by omega
 have tfl:=tdiv_R hd.fl 2 (by simp)
 have tms:=tdiv_R hd.ms 4 (by simp)
 have toc:=tdiv_R hd.oc 2 (by simp)
 have tmd:=tdiv_R hd.md 2 (by simp)
 have top:=tdiv_R hd.op 2 (by simp)
 clear hd hmx
 go_enter Tryz.func27,Tryz.ntmps27
 go_upto_region 1 with fail
 refine at_world (fun V => Bel w V ∧ V.heap[w.heap.size]? = some (.cells #[.int .i64 d.k,.int .i64 d.im,.int .i64 d.x,.int .i64 d.y,.int .i64 d.ms,.int .i64 d.mx,.int .i64 d.my,.int .i64 d.oc,.int .i64 d.op,.int .i64 d.md,.int .i64 d.fl] 83) ∧ V.heap[w.heap.size + 1]? = some (.cells #[.int .i64 r.x,.int .i64 r.y,.int .i64 r.u,.int .i64 r.v] 34) ∧ V.heap[w.heap.size + 1 + 1]? = some (.cells #[.int .i64 0,.int .i64 0,.int .i64 0,.int .i64 0,.int .i64 0,.int .i64 0,.int .i64 0,.int .u16 0,.int .i64 0,.int .i64 0,.bool false,.bool false] 29)) ⟨(((Bel.refl w).al _).al _).al _,at_old (at_old (at_new (by first | rfl | simp))),at_old (at_new (by first | rfl | simp)),at_new (by first | rfl | simp)⟩ ?_
 rintro V ⟨hX,eD,eC,eR⟩
 have Ds:=lt_of_heap eD
 have Cs:=lt_of_heap eC
 have Rs:=lt_of_heap eR
 have D_1:=cq1 eD rfl
 have D_2:=cq2 eD rfl
 have D_3:=cq3 eD rfl
 have D_4:=cq4 eD rfl
 have D_5:=cq5 eD rfl
 have D_6:=cq6 eD rfl
 have D_7:=cq7 eD rfl
 have D_8:=cq8 eD rfl
 have D_9:=cq9 eD rfl
 have D_10:=cq10 eD rfl
 have C_0:=cq0 eC rfl
 have C_1:=cq1 eC rfl
 have fD:=frozA eD
 have fC:=frozA eC
 have fR:=frozA eR
 go_upto_region 2 with fail
 obtain ⟨T,hT⟩:∃ T,T = V.heap.size:=⟨_,rfl⟩
 refine at_world (fun Y => OpI w V.heap.size d r Y ⟨1,0,0,0,0,0,0,mx,4,1,false,false⟩) ⟨hX.al _,at_old eD,at_old eC,at_old eR,at_new (by first | rfl | simp),lt_of_heap eR⟩ ?_
 clear Ds D_1 D_2 D_3 D_4 D_5 D_6 D_7 D_8 D_9 D_10 fD Cs C_0 C_1 fC Rs fR hX eD eC eR
 rintro Y I
 go_upto_if 16 with fail
 go_cut [] (fun Z => ∃ o,OpI w V.heap.size d r Z o ∧ OpG n mx free (if push then 2 else 1) o)
 case first =>
  cases push with
  | true =>
   have O_0:=cq0 I.eO rfl
   have fO:=frozA I.eO
   have sO:=lt_of_heap I.eO
   have hTT:=I.tT
   go_upto_region 4 with fail
   refine at_world (fun Y2 => OpI w V.heap.size d r Y2 ⟨2,0,0,0,0,0,0,mx,4,1,false,false⟩) (I.upd ((Upd.refl _ _).set 0 _) (heap_set _ I.eO)) ?_
   clear O_0 fO sO hTT
   clear I
   rintro Y2 I2
   have D_10:=fun (W:World) (h:Kp V.heap.size Y2 W) => h.cell (cq10 I2.eD rfl) (by show w.heap.size ≠ V.heap.size; have:=I2.tT; omega)
   have O_10:=cq10 I2.eO rfl
   have O_11:=cq11 I2.eO rfl
   have fO:=frozA I2.eO
   have hS0:Kp V.heap.size Y2 Y2.drew:=Kp.of_bel (Bel.refl Y2).dr
   have HII:=hd_ I2
   clear I2
   go_region_held3 (fun W => Kp V.heap.size Y2 W) ((repeat (with_reducible first | assumption | exact Kp.refl _ _ | refine Kp.st ?_ _ _ | refine Kp.dr ?_))) (first | (go_at_call 8; (with_reducible refine (hM.out _ _ (by first | decide | omega) (by first | decide | omega) _).mono ?_); rintro e w9 ⟨rfl,rfl⟩))
   all_goals go_wp2_with fail
   all_goals go_meet
   all_goals exact ⟨(⟨2,0,0,0,0,0,0,mx,4,1,(d.fl % 2 == 0),(d.fl.tdiv 2 % 3 == 0)⟩:Opr),HII.out.upd (by (repeat (with_reducible first | exact Upd.refl _ _ | refine Upd.dr ?_ | refine Upd.set ?_ _ _))) (by (first | exact heap_set _ (heap_set _ HII.out.eO) | (refine (heap_set _ (heap_set _ HII.out.eO)).trans ?_; rfl) | exact at_drew1 (heap_set _ (heap_set _ HII.out.eO)))),OpG.push0 n mx free _ _ hm0⟩
  | false =>
   have i0:0 ≤ d.im % (n:Int):=Int.emod_nonneg _ (by omega)
   have i1:d.im % (n:Int) < n:=Int.emod_lt_of_pos _ (by omega)
   have D_1:=cq1 I.eD rfl
   have O_1:=cq1 I.eO rfl
   have fO:=frozA I.eO
   have sO:=lt_of_heap I.eO
   have hTT:=I.tT
   go_upto_region 6 with (first | (go_at_call 8; (with_reducible refine (hM.out _ _ (by first | decide | omega) (by first | decide | omega) _).mono ?_); rintro e w9 ⟨rfl,rfl⟩) | fail)
   refine at_world (fun Y2 => OpI w V.heap.size d r Y2 ⟨1,d.im % (n:Int),0,0,0,0,0,mx,4,1,false,false⟩) (I.upd ((Upd.refl _ _).set 1 _) (heap_set _ I.eO)) ?_
   clear D_1 O_1 fO sO hTT
   clear I
   rintro Y2 I2
   have D_2:=fun (W:World) (h:Kp V.heap.size Y2 W) => h.cell (cq2 I2.eD rfl) (by show w.heap.size ≠ V.heap.size; have:=I2.tT; omega)
   have D_3:=fun (W:World) (h:Kp V.heap.size Y2 W) => h.cell (cq3 I2.eD rfl) (by show w.heap.size ≠ V.heap.size; have:=I2.tT; omega)
   have C_0:=fun (W:World) (h:Kp V.heap.size Y2 W) => h.cell (cq0 I2.eC rfl) (by show w.heap.size + 1 ≠ V.heap.size; have:=I2.tT; omega)
   have C_1:=fun (W:World) (h:Kp V.heap.size Y2 W) => h.cell (cq1 I2.eC rfl) (by show w.heap.size + 1 ≠ V.heap.size; have:=I2.tT; omega)
   have O_2:=cq2 I2.eO rfl
   have O_3:=cq3 I2.eO rfl
   have fO:=frozA I2.eO
   have hS0:Kp V.heap.size Y2 Y2.drew:=Kp.of_bel (Bel.refl Y2).dr
   have HII:=hd_ I2
   clear I2
   go_region_held3 (fun W => Kp V.heap.size Y2 W) ((repeat (with_reducible first | assumption | exact Kp.refl _ _ | refine Kp.st ?_ _ _ | refine Kp.dr ?_))) (first | (go_at_call 46; (with_reducible refine (hOf.out d.x r.x HD.out.x (by omega) (by omega) _).mono ?_); rintro e w9 ⟨vx,rfl,hvx0,hvx1,rfl⟩) | (go_at_call 46; (with_reducible refine (hOf.out d.y r.y HD.out.y (by omega) (by omega) _).mono ?_); rintro e w9 ⟨vy,rfl,hvy0,hvy1,rfl⟩))
   all_goals go_wp2_with fail
   all_goals go_meet
   all_goals exact ⟨(⟨1,d.im % (n:Int),vx,vy,0,0,0,mx,4,1,false,false⟩:Opr),HII.out.upd (by (repeat (with_reducible first | exact Upd.refl _ _ | refine Upd.dr ?_ | refine Upd.set ?_ _ _))) (by (first | exact heap_set _ (heap_set _ HII.out.eO) | (refine (heap_set _ (heap_set _ HII.out.eO)).trans ?_; rfl) | exact at_drew1 (heap_set _ (heap_set _ HII.out.eO)))),OpG.draw0 n mx free hm0 _ _ _ i0 i1 ⟨by omega,by omega⟩ ⟨by omega,by omega⟩⟩
 case rest =>
  obtain ⟨o,I,G⟩:=hcut
  have D_4:=cq4 I.eD rfl
  have fO:=frozA I.eO
  have sO:=lt_of_heap I.eO
  have hTT:=I.tT
  go_upto_if 49 with (first | (go_at_call 8; (with_reducible refine (hM.out _ _ (by first | decide | omega) (by first | decide | omega) _).mono ?_); rintro e w9 ⟨rfl,rfl⟩) | fail)
  go_cut [] (fun Z => ∃ o,OpI w V.heap.size d r Z o ∧ OpG n mx free (if push then 2 else 1) o)
  case first =>
   cases hb:(d.ms % 4 == 0) with
   | false =>
    go_wp2_with fail
    go_meet
    exact ⟨o,I,G⟩
   | true =>
    clear D_4 fO sO hTT
    have i0:0 ≤ d.ms.tdiv 4 % (n:Int):=Int.emod_nonneg _ (by omega)
    have i1:d.ms.tdiv 4 % (n:Int) < n:=Int.emod_lt_of_pos _ (by omega)
    have t1:=tms.1
    have t2:IntKind.i64.wrap (1 + d.ms.tdiv 4 % (n:Int)) = 1 + d.ms.tdiv 4 % (n:Int):=wrap_i64 _ (by omega) (by omega)
    have D_4:=cq4 I.eD rfl
    have O_4:=cq4 I.eO rfl
    have fO:=frozA I.eO
    have sO:=lt_of_heap I.eO
    have hTT:=I.tT
    go_upto_region 9 with (first | (go_at_call 8; (with_reducible refine (hM.out _ _ (by first | decide | omega) (by first | decide | omega) _).mono ?_); rintro e w9 ⟨rfl,rfl⟩) | fail)
    refine at_world (fun Y2 => OpI w V.heap.size d r Y2 { o with ms:=1 + d.ms.tdiv 4 % (n:Int) }) (I.upd ((Upd.refl _ _).set 4 _) (heap_set _ I.eO)) ?_
    clear D_4 O_4 fO sO hTT
    clear I
    rintro Y2 I2
    have D_5:=fun (W:World) (h:Kp V.heap.size Y2 W) => h.cell (cq5 I2.eD rfl) (by show w.heap.size ≠ V.heap.size; have:=I2.tT; omega)
    have D_6:=fun (W:World) (h:Kp V.heap.size Y2 W) => h.cell (cq6 I2.eD rfl) (by show w.heap.size ≠ V.heap.size; have:=I2.tT; omega)
    have C_0:=fun (W:World) (h:Kp V.heap.size Y2 W) => h.cell (cq0 I2.eC rfl) (by show w.heap.size + 1 ≠ V.heap.size; have:=I2.tT; omega)
    have C_1:=fun (W:World) (h:Kp V.heap.size Y2 W) => h.cell (cq1 I2.eC rfl) (by show w.heap.size + 1 ≠ V.heap.size; have:=I2.tT; omega)
    have O_5:=cq5 I2.eO rfl
    have O_6:=cq6 I2.eO rfl
    have fO:=frozA I2.eO
    have hS0:Kp V.heap.size Y2 Y2.drew:=Kp.of_bel (Bel.refl Y2).dr
    have HII:=hd_ I2
    clear I2
    go_region_held3 (fun W => Kp V.heap.size Y2 W) ((repeat (with_reducible first | assumption | exact Kp.refl _ _ | refine Kp.st ?_ _ _ | refine Kp.dr ?_))) (first | (go_at_call 46; (with_reducible refine (hOf.out d.mx r.x HD.out.mx (by omega) (by omega) _).mono ?_); rintro e w9 ⟨vx,rfl,hvx0,hvx1,rfl⟩) | (go_at_call 46; (with_reducible refine (hOf.out d.my r.y HD.out.my (by omega) (by omega) _).mono ?_); rintro e w9 ⟨vy,rfl,hvy0,hvy1,rfl⟩))
    all_goals go_wp2_with fail
    all_goals go_meet
    all_goals exact ⟨{ o with ms:=1 + d.ms.tdiv 4 % (n:Int),mx:=vx,my:=vy },HII.out.upd (by (repeat (with_reducible first | exact Upd.refl _ _ | refine Upd.dr ?_ | refine Upd.set ?_ _ _))) (by (first | exact heap_set _ (heap_set _ HII.out.eO) | (refine (heap_set _ (heap_set _ HII.out.eO)).trans ?_; rfl) | exact at_drew1 (heap_set _ (heap_set _ HII.out.eO)))),G.mask _ _ _ (by omega) (by omega) ⟨by omega,by omega⟩ ⟨by omega,by omega⟩⟩
  case rest =>
   obtain ⟨o,I,G⟩:=hcut
   have D_7:=cq7 I.eD rfl
   have fO:=frozA I.eO
   have sO:=lt_of_heap I.eO
   have hTT:=I.tT
   go_upto_if 72 with (first | (go_at_call 8; (with_reducible refine (hM.out _ _ (by first | decide | omega) (by first | decide | omega) _).mono ?_); rintro e w9 ⟨rfl,rfl⟩) | fail)
   go_cut [] (fun Z => ∃ o,OpI w V.heap.size d r Z o ∧ OpG n mx free (if push then 2 else 1) o)
   case first =>
    cases hb:(d.oc % 2 == 0) with
    | false =>
     go_wp2_with fail
     go_meet
     exact ⟨o,I,G⟩
    | true =>
     clear D_7 fO sO hTT
     have t1:=toc.1
     obtain ⟨s0,s1⟩:=gsam_bounds (d.oc.tdiv 2) mx hm0
     have D_7:=cq7 I.eD rfl
     have O_7:=cq7 I.eO rfl
     have fO:=frozA I.eO
     have sO:=lt_of_heap I.eO
     have hTT:=I.tT
     go_wp2_with (first | (go_at_call 47; (with_reducible refine (hS.out _ toc.2 _).mono ?_); rintro e w9 ⟨rfl,rfl⟩) | fail)
     go_meet
     exact ⟨{ o with oc:=gsam (d.oc.tdiv 2) mx },I.upd ((Upd.refl _ _).set 7 _) (heap_set _ I.eO),G.opac _ s0 s1⟩
   case rest =>
    obtain ⟨o,I,G⟩:=hcut
    have D_9:=cq9 I.eD rfl
    have fO:=frozA I.eO
    have sO:=lt_of_heap I.eO
    have hTT:=I.tT
    go_upto_if 82 with (first | (go_at_call 8; (with_reducible refine (hM.out _ _ (by first | decide | omega) (by first | decide | omega) _).mono ?_); rintro e w9 ⟨rfl,rfl⟩) | fail)
    go_cut [] (fun Z => ∃ o,OpI w V.heap.size d r Z o ∧ OpG n mx free (if push then 2 else 1) o)
    case first =>
     cases hb:(d.md % 2 == 0) with
     | false =>
      go_wp2_with fail
      go_meet
      exact ⟨o,I,G⟩
     | true =>
      clear D_9 fO sO hTT
      have t1:=tmd.1
      have i0:0 ≤ d.md.tdiv 2 % 12:=Int.emod_nonneg _ (by decide)
      have i1:d.md.tdiv 2 % 12 < 12:=Int.emod_lt_of_pos _ (by decide)
      have t2:IntKind.i64.wrap (1 + d.md.tdiv 2 % 12) = 1 + d.md.tdiv 2 % 12:=wrap_i64 _ (by omega) (by omega)
      have D_9:=cq9 I.eD rfl
      have O_9:=cq9 I.eO rfl
      have fO:=frozA I.eO
      have sO:=lt_of_heap I.eO
      have hTT:=I.tT
      go_wp2_with (first | (go_at_call 8; (with_reducible refine (hM.out _ _ (by first | decide | omega) (by first | decide | omega) _).mono ?_); rintro e w9 ⟨rfl,rfl⟩) | fail)
      go_meet
      exact ⟨{ o with md:=1 + d.md.tdiv 2 % 12 },I.upd ((Upd.refl _ _).set 9 _) (heap_set _ I.eO),G.mode _ (by omega) (by omega)⟩
    case rest =>
     obtain ⟨o,I,G⟩:=hcut
     have D_8:=cq8 I.eD rfl
     have fO:=frozA I.eO
     have sO:=lt_of_heap I.eO
     have hTT:=I.tT
     cases free with
     | false =>
      go_upto_region 16 with fail
      refine at_world (fun Z => ∃ o,OpI w V.heap.size d r Z o ∧ OpG n mx false (if push then 2 else 1) o) ⟨o,I,G⟩ ?_
      clear D_8 fO sO hTT
      clear I G o
      rintro Z hcut
      obtain ⟨o,I,G⟩:=hcut
      have lop:=opr_ld I.eO
      have eR:=I.eR
      have hX0:=I.hX
      have HG:=hd_ G
      clear I G
      go_upto_region 16 with fail
      go_cut [] (fun Z => ∃ o:Opr,Z.heap[w.heap.size + 1 + 1]? = some (.cells o.cs.toArray 29) ∧ OpG n mx false (if push then 2 else 1) o ∧ Bel w Z)
      case first =>
       exact tlWOp1
      case rest =>
       exact tlWOp0
     | true =>
      go_upto_if 95 with (first | (go_at_call 8; (with_reducible refine (hM.out _ _ (by first | decide | omega) (by first | decide | omega) _).mono ?_); rintro e w9 ⟨rfl,rfl⟩) | fail)
      go_cut [] (fun Z => ∃ o,OpI w V.heap.size d r Z o ∧ OpG n mx true (if push then 2 else 1) o)
      case first =>
       cases hb:(d.op % 2 == 0) with
       | false =>
        go_wp2_with fail
        go_meet
        exact ⟨o,I,G⟩
       | true =>
        clear D_8 fO sO hTT
        have t1:=top.1
        have i0:0 ≤ d.op.tdiv 2 % 12:=Int.emod_nonneg _ (by decide)
        have i1:d.op.tdiv 2 % 12 < 12:=Int.emod_lt_of_pos _ (by decide)
        have t2:IntKind.i64.wrap (1 + d.op.tdiv 2 % 12) = 1 + d.op.tdiv 2 % 12:=wrap_i64 _ (by omega) (by omega)
        have D_8:=cq8 I.eD rfl
        have O_8:=cq8 I.eO rfl
        have fO:=frozA I.eO
        have sO:=lt_of_heap I.eO
        have hTT:=I.tT
        go_wp2_with (first | (go_at_call 8; (with_reducible refine (hM.out _ _ (by first | decide | omega) (by first | decide | omega) _).mono ?_); rintro e w9 ⟨rfl,rfl⟩) | fail)
        go_meet
        exact ⟨{ o with op:=1 + d.op.tdiv 2 % 12 },I.upd ((Upd.refl _ _).set 8 _) (heap_set _ I.eO),G.oper _ (by omega) (by omega)⟩
      case rest =>
       obtain ⟨o,I,G⟩:=hcut
       have lop:=opr_ld I.eO
       have eR:=I.eR
       have hX0:=I.hX
       have HG:=hd_ G
       clear I G
       go_upto_region 16 with fail
       go_cut [] (fun Z => ∃ o:Opr,Z.heap[w.heap.size + 1 + 1]? = some (.cells o.cs.toArray 29) ∧ OpG n mx true (if push then 2 else 1) o ∧ Bel w Z)
       case first =>
        exact tlWOp1
       case rest =>
        exact tlWOp0
end Go.Proofs.YtepfoelgegljbaaGreatDoor
