/- Part A4. -/
import Derived.Test.YtepfoelgegljbaaGreatDoorA03
namespace Go.Proofs.YtepfoelgegljbaaGreatDoor
set_option maxRecDepth 100000
open Go.RowKit
set_option linter.unusedVariables false
def withinF (m:Int) (l:List Int):Bool:=l.all fun v => decide (-m ≤ v) && decide (v ≤ m)
def ints64 (l:List Int):List Value:=l.map fun v => .int .i64 v
set_option maxHeartbeats 2000000 in
theorem within_call (m:Int) (m0:0 ≤ m) (m1:m ≤ 4611686018427387904) (l:List Int) (n:Nat) (hn:n ≤ 1000) (ln:l.length = n) (A:Option Addr) (c:Nat) (w:World) (h:Sl w 1 n A (ints64 l)) :
  Calls Tryz.prog 79 #[.int .i64 m,.slice A n c] w fun e w' => e = .returned (.bool (withinF m l)) ∧ w = w':=by
 have h':=hd_ h
 have ln':=hd_ ln
 clear h ln
 go_enter Tryz.func79,Tryz.ntmps79
 go_wp2_with fail
 go_loopg [9] n (fun gk s9 wr => ∃ i:Nat,i + gk = n ∧ s9 = .int .i64 i ∧ wr = w ∧ withinF m (l.take i) = true)
 case atStart => exact ⟨0,by omega,rfl,rfl,rfl⟩
 case round =>
  obtain ⟨i,hgk,rfl,rfl,hW⟩:=hrel
  have HW:=hd_ hW
  clear hW
  by_cases hlt:i < n
  case neg =>
   go_wp2_with fail
   obtain rfl:i = n:=by omega
   go_returns
   have e:=HW.out
   rw [List.take_of_length_le (by rw [ln'.out]; omega)] at e
   exact ⟨by rw [e]; rfl,rfl⟩
  case pos =>
   obtain ⟨v,ev⟩:∃ v,l[i]? = some v:=⟨l[i]'(by have:=ln'.out; omega),List.getElem?_eq_getElem _⟩
   obtain ⟨g,off,rfl,hc⟩:=h'.out.2 (by omega)
   have d0:=hc i (.int .i64 v) (by simp [ints64,ev])
   have hwm:IntKind.i64.wrap (-m) = -m:=wrap_i64 _ (by omega) (by omega)
   have hbad:¬ (-m ≤ v ∧ v ≤ m) → withinF m l = false:=fun h => by
    apply Bool.eq_false_iff.2
    intro hc
    exact h (by simpa using (List.all_eq_true.1 hc) v (List.mem_of_getElem? ev))
   have HB:=hd_ hbad
   have EV:=hd_ ev
   clear hc hbad ev
   by_cases h1:v < -m
   ·go_wp2_with fail
    go_returns
    exact ⟨by rw [HB.out (by omega)]; rfl,rfl⟩
   ·by_cases h2:m < v
    ·go_wp2_with fail
     go_returns
     exact ⟨by rw [HB.out (by omega)]; rfl,rfl⟩
    ·go_wp2_with fail
     go_roundg (gk - 1)
     case measure => omega
     case rel =>
      refine ⟨i + 1,by omega,by go_num,rfl,?_⟩
      rw [take_snoc EV.out]
      have e:=HW.out
      unfold withinF at e ⊢
      rw [List.all_append,e]
      simp
      omega
structure Rc where
 x:Int
 y:Int
 u:Int
 v:Int
abbrev Rc.val (r:Rc):Value:=.agg #[.int .i64 r.x,.int .i64 r.y,.int .i64 r.u,.int .i64 r.v]
def Rc.good (r:Rc):Bool:=withinF 1073741824 [r.x,r.y,r.u,r.v]
theorem sl4 {W:World} {g:Nat} {a b c d:Int} {t:TypeId} (e:W.heap[g]? = some (.cells #[.int .i64 a,.int .i64 b,.int .i64 c,.int .i64 d] t)):Sl W 1 4 (some ⟨g,0,none⟩) (ints64 [a,b,c,d]) :=
 ⟨rfl,fun _ => ⟨_,0,rfl,fun j u hj => by rw [Nat.zero_add]; exact cell_of e (by simpa [ints64] using hj)⟩⟩
set_option maxHeartbeats 2000000 in
theorem rvalid_call (r:Rc) (w:World):Calls Tryz.prog 65 #[r.val] w fun e w' => e = .returned (.bool r.good) ∧ ∃ p,w' = more w p:=by
 go_enter Tryz.func65,Tryz.ntmps65
 go_wp2_with (go_at_call 79; (with_reducible refine (within_call 1073741824 (by decide) (by decide) [r.x,r.y,r.u,r.v] 4 (by decide) rfl _ _ _ ?hs).mono ?_); (case hs => exact sl4 (at_new (by simp))); rintro e w2 ⟨rfl,rfl⟩)
 go_returns
 exact ⟨rfl,⟨⟨[_,_],0⟩,rfl⟩⟩
def Rc.emp (r:Rc):Bool:=!r.good || decide (r.u ≤ r.x) || decide (r.v ≤ r.y)
set_option maxHeartbeats 2000000 in
theorem rempty_call (r:Rc) (w:World):Calls Tryz.prog 48 #[r.val] w fun e w' => e = .returned (.bool r.emp) ∧ ∃ p,w' = more w p:=by
 have hC:=hd_ (fun w => rvalid_call r w)
 have hmc:=more_cell
 unfold Rc.emp
 generalize hG:r.good = G at *
 clear hG
 cases G <;> by_cases h1:r.u ≤ r.x <;> by_cases h2:r.v ≤ r.y
 all_goals
  go_enter Tryz.func48,Tryz.ntmps48
  go_wp2_with (go_at_call 65; (with_reducible refine (hC.out _).mono ?_); rintro e w1 ⟨rfl,q,rfl⟩)
  go_returns
  refine ⟨by simp [h1,h2],?_⟩
  exact ⟨⟨_ :: q.blocks,q.draws⟩,rfl⟩
def Rc.clean (r:Rc):Rc:=if r.emp then ⟨0,0,0,0⟩ else r
theorem tlTRect0 {p:Prop} (h:p:=by
  repeat (first | exact hX | refine Bel.mo ?_ _ | refine Bel.al ?_ _ | refine Bel.setCell ?_ (Nat.le_refl _) _ | refine Bel.setCell ?_ (by omega) _)):p:=h
set_option maxHeartbeats 2000000 in
theorem rclean_call (r:Rc) (w:World):Calls Tryz.prog 66 #[r.val] w fun e w' => e = .returned r.clean.val ∧ Bel w w':=by
 have hC:=hd_ (fun w => rempty_call r w)
 have hmc:=more_cell
 have hmh:=more_heap
 have hmf:=more_frozen
 have hms:=more_setCell
 unfold Rc.clean
 generalize hG:r.emp = G at *
 clear hG
 cases G
 all_goals
  go_enter Tryz.func66,Tryz.ntmps66
  go_upto_region 1 with fail
  refine at_world (fun V => Bel w V ∧ V.heap[w.heap.size]? = some (.cells #[.int .i64 r.x,.int .i64 r.y,.int .i64 r.u,.int .i64 r.v] 34) ∧ V.heap[w.heap.size + 1]? = some (.cells #[.int .i64 0,.int .i64 0,.int .i64 0,.int .i64 0] 34)) ⟨((Bel.refl w).al _).al _,at_old (at_new rfl),at_new (by simp)⟩ ?_
  rintro V ⟨hX,e0,e1⟩
  obtain ⟨k0,k1,k2,k3,k4⟩:=cells4_of e0
  obtain ⟨l0,l1,l2,l3,l4⟩:=cells4_of e1
  have lf:=frozA e1
  go_wp2_with (go_at_call 48; (with_reducible refine (hC.out _).mono ?_); rintro e w1 ⟨rfl,q,rfl⟩)
  refine bodyPost_ret (v:=.agg #[_,_,_,_]) (by simp [results,Tryz.results66,go_sem, *]) rfl ⟨rfl,?_⟩
  exact tlTRect0
def Rc.area (r:Rc):Int:=(r.clean.u - r.clean.x) * (r.clean.v - r.clean.y)
theorem good_iff (r:Rc):r.good = true ↔ (-1073741824 ≤ r.x ∧ r.x ≤ 1073741824) ∧ (-1073741824 ≤ r.y ∧ r.y ≤ 1073741824) ∧ (-1073741824 ≤ r.u ∧ r.u ≤ 1073741824) ∧ (-1073741824 ≤ r.v ∧ r.v ≤ 1073741824):=by
 unfold Rc.good withinF
 simp
theorem emp_iff (r:Rc):r.emp = false ↔ r.good = true ∧ r.x < r.u ∧ r.y < r.v:=by
 unfold Rc.emp
 cases r.good <;> simp
theorem clean_good (r:Rc):r.clean.good = true:=by
 unfold Rc.clean
 split
 ·decide
 ·rename_i h
  exact ((emp_iff r).1 (by simpa using h)).1
theorem mul_bd {a b:Int} (a0:-2147483648 ≤ a) (a1:a ≤ 2147483648) (b0:-2147483648 ≤ b) (b1:b ≤ 2147483648):-4611686018427387904 ≤ a * b ∧ a * b ≤ 4611686018427387904:=by
 have k1:=Int.mul_nonneg (show 0 ≤ 2147483648 - a by omega) (show 0 ≤ 2147483648 + b by omega)
 have k2:=Int.mul_nonneg (show 0 ≤ 2147483648 + a by omega) (show 0 ≤ 2147483648 - b by omega)
 have k3:=Int.mul_nonneg (show 0 ≤ 2147483648 + a by omega) (show 0 ≤ 2147483648 + b by omega)
 have k4:=Int.mul_nonneg (show 0 ≤ 2147483648 - a by omega) (show 0 ≤ 2147483648 - b by omega)
 simp only [Int.add_mul,Int.sub_mul,Int.mul_add,Int.mul_sub] at k1 k2 k3 k4
 omega
set_option maxHeartbeats 2000000 in
theorem rarea_call (r:Rc) (w:World):Calls Tryz.prog 49 #[r.val] w fun e w' => e = .returned (.int .i64 r.area) ∧ Bel w w':=by
 have hC:=hd_ (fun w => rclean_call r w)
 have hg:=(good_iff _).1 (clean_good r)
 unfold Rc.area
 generalize r.clean = q at *
 have m0:-4611686018427387904 ≤ (q.u - q.x) * (q.v - q.y) ∧ (q.u - q.x) * (q.v - q.y) ≤ 4611686018427387904:=mul_bd (by omega) (by omega) (by omega) (by omega)
 have e0:IntKind.i64.wrap ((q.u - q.x) * (q.v - q.y)) = (q.u - q.x) * (q.v - q.y):=wrap_i64 _ (by omega) (by omega)
 obtain ⟨⟨g0,g1⟩,⟨g2,g3⟩,⟨g4,g5⟩,⟨g6,g7⟩⟩:=hg
 clear m0
 go_enter Tryz.func49,Tryz.ntmps49
 go_upto_region 1 with fail
 refine at_world (fun V => Bel w V ∧ V.heap[w.heap.size]? = some (.cells #[.int .i64 r.x,.int .i64 r.y,.int .i64 r.u,.int .i64 r.v] 34)) ⟨(Bel.refl w).al _,at_new (by simp)⟩ ?_
 rintro V ⟨hX,eA⟩
 obtain ⟨As,A_0,A_1,A_2,A_3⟩:=cells4_of eA
 have fA:=frozA eA
 go_wp2_with (go_at_call 66; (with_reducible refine (hC.out _).mono ?_); rintro e w1 ⟨rfl,hb⟩; replace hX:=hX.trans hb; replace eA:=hb.heap eA; clear As A_0 A_1 A_2 A_3 fA; obtain ⟨As,A_0,A_1,A_2,A_3⟩:=cells4_of eA; have fA:=frozA eA; clear hb)
 go_returns
 exact ⟨rfl,by repeat (first | exact hX | refine Bel.mo ?_ _ | refine Bel.al ?_ _ | refine Bel.setCell ?_ (Nat.le_refl _) _ | refine Bel.setCell ?_ (by omega) _)⟩
def Rc.inter (r q:Rc):Rc:=if r.emp || q.emp then ⟨0,0,0,0⟩ else Rc.clean ⟨max r.x q.x,max r.y q.y,min r.u q.u,min r.v q.v⟩
theorem calls_b {f:FuncId} {args:Array Value} {v:Value} (h:∀ w,Calls Tryz.prog f args w fun e w' => e = .returned v ∧ ∃ q,w' = more w q) (w:World):Calls Tryz.prog f args w fun e w' => e = .returned v ∧ Bel w w':=calls_bel (h w)
set_option maxHeartbeats 2000000 in
theorem rinter_call (r q:Rc) (w:World):Calls Tryz.prog 74 #[r.val,q.val] w fun e w' => e = .returned (r.inter q).val ∧ Bel w w':=by
 have hC:=hd_ (calls_b (rempty_call r))
 have hD:=hd_ (calls_b (rempty_call q))
 have hE:=hd_ (fun w => rclean_call ⟨max r.x q.x,max r.y q.y,min r.u q.u,min r.v q.v⟩ w)
 have hmax:=max_ints
 have hmin:=min_ints
 unfold Rc.inter
 generalize Rc.clean ⟨max r.x q.x,max r.y q.y,min r.u q.u,min r.v q.v⟩ = R at *
 generalize hG:r.emp = G at *
 generalize hH:q.emp = H at *
 clear hG hH
 cases G <;> cases H
 all_goals
  go_enter Tryz.func74,Tryz.ntmps74
  go_upto_region 1 with fail
  refine at_world (fun V => Bel w V ∧ V.heap[w.heap.size]? = some (.cells #[.int .i64 r.x,.int .i64 r.y,.int .i64 r.u,.int .i64 r.v] 34) ∧ V.heap[w.heap.size + 1]? = some (.cells #[.int .i64 q.x,.int .i64 q.y,.int .i64 q.u,.int .i64 q.v] 34) ∧ V.heap[w.heap.size + 1 + 1]? = some (.cells #[.int .i64 0,.int .i64 0,.int .i64 0,.int .i64 0] 34)) ⟨(((Bel.refl w).al _).al _).al _,at_old (at_old (at_new (by simp))),at_old (at_new (by simp)),at_new (by simp)⟩ ?_
  rintro V ⟨hX,eA,eB,eO⟩
  obtain ⟨As,A_0,A_1,A_2,A_3⟩:=cells4_of eA
  obtain ⟨Bs,B_0,B_1,B_2,B_3⟩:=cells4_of eB
  obtain ⟨Os,O_0,O_1,O_2,O_3⟩:=cells4_of eO
  have fA:=frozA eA
  have fB:=frozA eB
  have fO:=frozA eO
  go_wp2_with (first | ((first | (go_at_call 48; (with_reducible refine (hC.out _).mono ?_)) | (go_at_call 48; (with_reducible refine (hD.out _).mono ?_)) | (go_at_call 66; (with_reducible refine (hE.out _).mono ?_))); rintro e w1 ⟨rfl,hb⟩; replace hX:=hX.trans hb; replace eA:=hb.heap eA; replace eB:=hb.heap eB; replace eO:=hb.heap eO; clear As A_0 A_1 A_2 A_3 fA Bs B_0 B_1 B_2 B_3 fB Os O_0 O_1 O_2 O_3 fO; obtain ⟨As,A_0,A_1,A_2,A_3⟩:=cells4_of eA; obtain ⟨Bs,B_0,B_1,B_2,B_3⟩:=cells4_of eB; obtain ⟨Os,O_0,O_1,O_2,O_3⟩:=cells4_of eO; have fA:=frozA eA; have fB:=frozA eB; have fO:=frozA eO; clear hb))
  refine bodyPost_ret (v:=.agg #[_,_,_,_]) (by simp [results,Tryz.results74,go_sem, *]) rfl ⟨rfl,?_⟩
  exact tlTRect0
def hull1 (o r:Rc):Rc:=if r.emp then o else if o.emp then r else ⟨min o.x r.x,min o.y r.y,max o.u r.u,max o.v r.v⟩
def hullF (l:List Rc):Rc:=l.foldl hull1 ⟨0,0,0,0⟩
abbrev Rc.cs (r:Rc):List Value:=[.int .i64 r.x,.int .i64 r.y,.int .i64 r.u,.int .i64 r.v]
def rcs (l:List Rc):List Value:=l.flatMap Rc.cs
theorem rcs_len (l:List Rc):(rcs l).length = l.length * 4:=flat_len (f:=Rc.cs) (fun _ => rfl) l
theorem Sl.rc {W:World} {n i:Nat} {A:Option Addr} {l:List Rc} {p:Rc} (h:Sl W 4 n A (rcs l)) (hi:l[i]? = some p) (hn:i < n) :
  ∃ g off,A = some ⟨g,off,none⟩ ∧ W.cell? ⟨g,off + i * 4,none⟩ = some (.int .i64 p.x) ∧ W.cell? ⟨g,off + i * 4 + 1,none⟩ = some (.int .i64 p.y) ∧ W.cell? ⟨g,off + i * 4 + 2,none⟩ = some (.int .i64 p.u) ∧ W.cell? ⟨g,off + i * 4 + 3,none⟩ = some (.int .i64 p.v):=by
 obtain ⟨g,off,rfl,hc⟩:=h.2 (by omega)
 have k:∀ j u,j < 4 → p.cs[j]? = some u → W.cell? ⟨g,off + i * 4 + j,none⟩ = some u:=fun j u hj hu => by
  rw [Nat.add_assoc]
  exact hc _ u ((flat_get (f:=Rc.cs) (fun _ => rfl) l i j p hi hj).trans hu)
 exact ⟨g,off,rfl,k 0 _ (by decide) rfl,k 1 _ (by decide) rfl,k 2 _ (by decide) rfl,k 3 _ (by decide) rfl⟩
theorem rcs_snoc (l:List Rc) (p:Rc):rcs (l ++ [p]) = rcs l ++ p.cs:=by unfold rcs; rw [List.flatMap_append]; simp
set_option maxHeartbeats 4000000 in
theorem rhull_call (l:List Rc) (n:Nat) (hn:n ≤ 1000) (ln:l.length = n) (A:Option Addr) (c:Nat) (w:World) (h:Sl w 4 n A (rcs l)) :
  Calls Tryz.prog 86 #[.slice A n c] w fun e w' => e = .returned (hullF l).val ∧ Bel w w':=by
 have h':=hd_ h
 have ln':=hd_ ln
 have hmax:=max_ints
 have hmin:=min_ints
 clear h ln
 go_enter Tryz.func86,Tryz.ntmps86
 go_wp2_with fail
 go_loopg [8] n (fun gk s8 wr => ∃ i:Nat,i + gk = n ∧ s8 = .int .i64 i ∧ Bel w wr ∧ wr.heap[w.heap.size]? = some (.cells #[.int .i64 0,.int .i64 0,.int .i64 0,.int .i64 0] 34) ∧ wr.heap[w.heap.size + 1]? = some (.cells #[.int .i64 (hullF (l.take i)).x,.int .i64 (hullF (l.take i)).y,.int .i64 (hullF (l.take i)).u,.int .i64 (hullF (l.take i)).v] 34))
 case atStart => exact ⟨0,by omega,rfl,((Bel.refl w).al _).al _,at_old (at_new rfl),at_new (by simp)⟩
 case round =>
  obtain ⟨i,hgk,rfl,hX,eQ,eO⟩:=hrel
  by_cases hlt:i < n
  case neg =>
   obtain rfl:i = n:=by omega
   rw [List.take_of_length_le (by rw [ln'.out]; omega)] at eO
   obtain ⟨Os,O_0,O_1,O_2,O_3⟩:=cells4_of eO
   obtain ⟨Qs,Q_0,Q_1,Q_2,Q_3⟩:=cells4_of eQ
   have fO:=frozA eO
   have fQ:=frozA eQ
   go_wp2_with fail
   refine bodyPost_ret (v:=.agg #[_,_,_,_]) (by simp [results,Tryz.results86,go_sem, *]) rfl ⟨rfl,?_⟩
   exact tlTRect0
  case pos =>
   obtain ⟨r,er⟩:∃ v,l[i]? = some v:=⟨l[i]'(by have:=ln'.out; omega),List.getElem?_eq_getElem _⟩
   have hs:hullF (l.take (i + 1)) = hull1 (hullF (l.take i)) r:=by
    rw [take_snoc er]; unfold hullF; rw [List.foldl_append]; rfl
   obtain ⟨g,off,rfl,d0,d1,d2,d3⟩:=(h'.out.bel hX).rc er hlt
   generalize hullF (l.take i) = H at *
   have HS:=hd_ hs
   clear hs er
   go_upto_region 6 with fail
   refine at_world (fun V => Bel w V ∧ V.heap[w.heap.size]? = some (.cells #[.int .i64 0,.int .i64 0,.int .i64 0,.int .i64 0] 34) ∧ V.heap[w.heap.size + 1]? = some (.cells #[.int .i64 H.x,.int .i64 H.y,.int .i64 H.u,.int .i64 H.v] 34) ∧ V.heap[wr.heap.size]? = some (.cells #[.int .i64 r.x,.int .i64 r.y,.int .i64 r.u,.int .i64 r.v] 34) ∧ wr.heap.size ≠ w.heap.size + 1 ∧ wr.heap.size ≠ w.heap.size ∧ w.heap.size ≤ wr.heap.size) ⟨hX.al _,at_old eQ,at_old eO,at_new rfl,by have:=lt_of_heap eO; omega,by have:=lt_of_heap eO; omega,hX.size'⟩ ?_
   rintro V ⟨hX,eQ,eO,eR,hne,hne2,hle⟩
   clear d0 d1 d2 d3
   obtain ⟨Os,O_0,O_1,O_2,O_3⟩:=cells4_of eO
   obtain ⟨Rs,R_0,R_1,R_2,R_3⟩:=cells4_of eR
   have fO:=frozA eO
   have fR:=frozA eR
   have hC:=hd_ (calls_b (rempty_call r))
   have hD:=hd_ (calls_b (rempty_call H))
   generalize hG:r.emp = G at *
   generalize hK:H.emp = K at *
   have HG:=hd_ hG
   have HK:=hd_ hK
   clear hG hK
   cases G
   case true =>
    go_wp2_with (first | ((first | (go_at_call 48; (with_reducible refine (hC.out _).mono ?_)) | (go_at_call 48; (with_reducible refine (hD.out _).mono ?_))); rintro e w1 ⟨rfl,hb⟩; replace hX:=hX.trans hb; replace eO:=hb.heap eO; replace eR:=hb.heap eR; replace eQ:=hb.heap eQ; clear Os O_0 O_1 O_2 O_3 fO Rs R_0 R_1 R_2 R_3 fR; obtain ⟨Os,O_0,O_1,O_2,O_3⟩:=cells4_of eO; obtain ⟨Rs,R_0,R_1,R_2,R_3⟩:=cells4_of eR; have fO:=frozA eO; have fR:=frozA eR; clear hb))
    go_roundg (gk - 1)
    case measure => omega
    case rel => exact ⟨i + 1,by omega,by go_num,hX,eQ,by rw [HS.out]; unfold hull1; rw [if_pos HG.out]; exact eO⟩
   case false =>
    cases K
    case true =>
     go_wp2_with (first | ((first | (go_at_call 48; (with_reducible refine (hC.out _).mono ?_)) | (go_at_call 48; (with_reducible refine (hD.out _).mono ?_))); rintro e w1 ⟨rfl,hb⟩; replace hX:=hX.trans hb; replace eO:=hb.heap eO; replace eR:=hb.heap eR; replace eQ:=hb.heap eQ; clear Os O_0 O_1 O_2 O_3 fO Rs R_0 R_1 R_2 R_3 fR; obtain ⟨Os,O_0,O_1,O_2,O_3⟩:=cells4_of eO; obtain ⟨Rs,R_0,R_1,R_2,R_3⟩:=cells4_of eR; have fO:=frozA eO; have fR:=frozA eR; clear hb))
     go_roundg (gk - 1)
     case measure => omega
     case rel => exact ⟨i + 1,by omega,by go_num,by repeat (first | exact hX | refine Bel.setCell ?_ (by omega) _),by repeat (first | exact eQ | refine heap_set_other _ (by omega) ?_),by rw [HS.out]; unfold hull1; rw [if_neg (by rw [HG.out]; decide),if_pos HK.out]; exact heap_set _ (heap_set _ (heap_set _ (heap_set _ eO)))⟩
    case false =>
     go_wp2_with (first | ((first | (go_at_call 48; (with_reducible refine (hC.out _).mono ?_)) | (go_at_call 48; (with_reducible refine (hD.out _).mono ?_))); rintro e w1 ⟨rfl,hb⟩; replace hX:=hX.trans hb; replace eO:=hb.heap eO; replace eR:=hb.heap eR; replace eQ:=hb.heap eQ; clear Os O_0 O_1 O_2 O_3 fO Rs R_0 R_1 R_2 R_3 fR; obtain ⟨Os,O_0,O_1,O_2,O_3⟩:=cells4_of eO; obtain ⟨Rs,R_0,R_1,R_2,R_3⟩:=cells4_of eR; have fO:=frozA eO; have fR:=frozA eR; clear hb))
     go_roundg (gk - 1)
     case measure => omega
     case rel => exact ⟨i + 1,by omega,by go_num,by repeat (first | exact hX | refine Bel.setCell ?_ (by omega) _),by repeat (first | exact eQ | refine heap_set_other _ (by omega) ?_),by rw [HS.out]; unfold hull1; rw [if_neg (by rw [HG.out]; decide),if_neg (by rw [HK.out]; decide)]; exact heap_set _ (heap_set _ (heap_set _ (heap_set _ eO)))⟩
theorem half_range (n d m:Int) (n0:0 ≤ n) (d0:0 ≤ d) (m0:0 ≤ m) (h:n ≤ m * d):0 ≤ halfI n d ∧ halfI n d ≤ m:=by
 refine ⟨half_nonneg _ _ n0 d0,?_⟩
 by_cases e:d = 0
 ·simp [halfI,e,m0]
 ·exact half_mul_le _ _ _ (by omega) h
def maxI (b:Int):Int:=if b = 8 then 255 else if b = 16 then 65535 else 0
def maxB (b:Int):Bool:=if b = 8 then true else if b = 16 then true else false
theorem tlSamp0 {p:Prop} (h:p:=by
  clear e1 e2 h8 h16
  go_enter Tryz.func29,Tryz.ntmps29
  go_wp2
  go_ret2
  exact ⟨rfl,rfl⟩):p:=h
set_option maxHeartbeats 400000 in
theorem smax_call (b:Int) (w:World) :
  Calls Tryz.prog 29 #[.int .i64 b] w fun e w' => e = .returned (.tuple #[.int .u16 (maxI b),.bool (maxB b)]) ∧ w = w':=by
 by_cases h8:b = 8
 ·have e1:maxI b = 255:=by simp [maxI,h8]
  have e2:maxB b = true:=by simp [maxB,h8]
  rw [e1,e2]
  have hb:(b == 8) = true:=by simpa using h8
  clear e1 e2 h8
  go_enter Tryz.func29,Tryz.ntmps29
  go_wp2
  go_ret2
  exact ⟨rfl,rfl⟩
 ·by_cases h16:b = 16
  ·have e1:maxI b = 65535:=by simp [maxI,h16]
   have e2:maxB b = true:=by simp [maxB,h16]
   rw [e1,e2]
   have hb:(b == 8) = false:=by simpa using h8
   have hb':(b == 16) = true:=by simpa using h16
   exact tlSamp0
  ·have e1:maxI b = 0:=by simp [maxI,h8,h16]
   have e2:maxB b = false:=by simp [maxB,h8,h16]
   rw [e1,e2]
   have hb:(b == 8) = false:=by simpa using h8
   have hb':(b == 16) = false:=by simpa using h16
   exact tlSamp0
end Go.Proofs.YtepfoelgegljbaaGreatDoor
