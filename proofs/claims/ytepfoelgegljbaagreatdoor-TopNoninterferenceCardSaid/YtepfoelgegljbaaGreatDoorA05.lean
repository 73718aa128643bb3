/- Part A5. -/
import Derived.Deep.MidRow
import Derived.RangeFuncNested
import Derived.RangeFuncBound
import Derived.RangeFuncCalls
import Derived.RangeFuncLeaves
import Derived.Shelf.Abstract
import Derived.OwnWalkIn
import Derived.TacticsInMore
import Derived.LoopNIn
import Derived.LoopIn
import Derived.Test.YtepfoelgegljbaaGreatDoorA04
namespace Go.Proofs.YtepfoelgegljbaaGreatDoor
set_option maxRecDepth 100000
open Go.RowKit
set_option linter.unusedVariables false
theorem tlVOp0 {p:Prop} (h:p:=by
  go_enter Tryz.func95,Tryz.ntmps95
  go_wp2_with (go_at_call 82; (with_reducible refine (HF.out).mono ?_); rintro e w' ⟨rfl,rfl⟩)
  go_ret
  exact ⟨rfl,⟨[_,_],0⟩,rfl⟩):p:=h
set_option maxHeartbeats 400000 in
theorem neutral_1 (w:World) (hR:Ruled w):Calls Tryz.prog 95 #[.int .i64 1] w fun e w' => e = .returned (.bool false) ∧ ∃ p,w' = more w p:=by
 have HF:=hd_ (find_1 w hR)
 clear hR
 exact tlVOp0
set_option maxHeartbeats 400000 in
theorem neutral_2 (w:World) (hR:Ruled w):Calls Tryz.prog 95 #[.int .i64 2] w fun e w' => e = .returned (.bool false) ∧ ∃ p,w' = more w p:=by
 have HF:=hd_ (find_2 w hR)
 clear hR
 exact tlVOp0
set_option maxHeartbeats 400000 in
theorem neutral_3 (w:World) (hR:Ruled w):Calls Tryz.prog 95 #[.int .i64 3] w fun e w' => e = .returned (.bool true) ∧ ∃ p,w' = more w p:=by
 have HF:=hd_ (find_3 w hR)
 clear hR
 exact tlVOp0
set_option maxHeartbeats 400000 in
theorem neutral_4 (w:World) (hR:Ruled w):Calls Tryz.prog 95 #[.int .i64 4] w fun e w' => e = .returned (.bool true) ∧ ∃ p,w' = more w p:=by
 have HF:=hd_ (find_4 w hR)
 clear hR
 exact tlVOp0
set_option maxHeartbeats 400000 in
theorem neutral_5 (w:World) (hR:Ruled w):Calls Tryz.prog 95 #[.int .i64 5] w fun e w' => e = .returned (.bool true) ∧ ∃ p,w' = more w p:=by
 have HF:=hd_ (find_5 w hR)
 clear hR
 exact tlVOp0
set_option maxHeartbeats 400000 in
theorem neutral_6 (w:World) (hR:Ruled w):Calls Tryz.prog 95 #[.int .i64 6] w fun e w' => e = .returned (.bool false) ∧ ∃ p,w' = more w p:=by
 have HF:=hd_ (find_6 w hR)
 clear hR
 exact tlVOp0
set_option maxHeartbeats 400000 in
theorem neutral_7 (w:World) (hR:Ruled w):Calls Tryz.prog 95 #[.int .i64 7] w fun e w' => e = .returned (.bool false) ∧ ∃ p,w' = more w p:=by
 have HF:=hd_ (find_7 w hR)
 clear hR
 exact tlVOp0
set_option maxHeartbeats 400000 in
theorem neutral_8 (w:World) (hR:Ruled w):Calls Tryz.prog 95 #[.int .i64 8] w fun e w' => e = .returned (.bool false) ∧ ∃ p,w' = more w p:=by
 have HF:=hd_ (find_8 w hR)
 clear hR
 exact tlVOp0
set_option maxHeartbeats 400000 in
theorem neutral_9 (w:World) (hR:Ruled w):Calls Tryz.prog 95 #[.int .i64 9] w fun e w' => e = .returned (.bool true) ∧ ∃ p,w' = more w p:=by
 have HF:=hd_ (find_9 w hR)
 clear hR
 exact tlVOp0
set_option maxHeartbeats 400000 in
theorem neutral_10 (w:World) (hR:Ruled w):Calls Tryz.prog 95 #[.int .i64 10] w fun e w' => e = .returned (.bool true) ∧ ∃ p,w' = more w p:=by
 have HF:=hd_ (find_10 w hR)
 clear hR
 exact tlVOp0
set_option maxHeartbeats 400000 in
theorem neutral_11 (w:World) (hR:Ruled w):Calls Tryz.prog 95 #[.int .i64 11] w fun e w' => e = .returned (.bool false) ∧ ∃ p,w' = more w p:=by
 have HF:=hd_ (find_11 w hR)
 clear hR
 exact tlVOp0
set_option maxHeartbeats 400000 in
theorem neutral_12 (w:World) (hR:Ruled w):Calls Tryz.prog 95 #[.int .i64 12] w fun e w' => e = .returned (.bool true) ∧ ∃ p,w' = more w p:=by
 have HF:=hd_ (find_12 w hR)
 clear hR
 exact tlVOp0
set_option maxHeartbeats 400000 in
theorem neutral_no (k:Int) (w:World) (h:k < 1 ∨ 12 < k):Calls Tryz.prog 95 #[.int .i64 k] w fun e w' => e = .returned (.bool false) ∧ ∃ p,w' = more w p:=by
 have HF:=hd_ (find_no k w h)
 clear h
 exact tlVOp0
theorem neutral_call (k:Int) (w:World) (hR:Ruled w):Calls Tryz.prog 95 #[.int .i64 k] w fun e w' => e = .returned (.bool (neuB k)) ∧ ∃ p,w' = more w p:=by
 by_cases hk:1 ≤ k ∧ k ≤ 12
 ·rcases op_cases hk.1 hk.2 with rfl | rfl | rfl | rfl | rfl | rfl | rfl | rfl | rfl | rfl | rfl | rfl
  ·exact neutral_1 w hR
  ·exact neutral_2 w hR
  ·exact neutral_3 w hR
  ·exact neutral_4 w hR
  ·exact neutral_5 w hR
  ·exact neutral_6 w hR
  ·exact neutral_7 w hR
  ·exact neutral_8 w hR
  ·exact neutral_9 w hR
  ·exact neutral_10 w hR
  ·exact neutral_11 w hR
  ·exact neutral_12 w hR
 ·rw [show neuB k = false from decide_eq_false (by omega)]
  exact neutral_no k w (by omega)
set_option maxHeartbeats 400000 in
theorem name_call (k:Int) (w:World) (hR:Ruled w):Calls Tryz.prog 70 #[.int .i64 k] w fun e w' => e = .returned (.string (opName k)) ∧ ∃ p,w' = more w p:=by
 have HF:=hd_ (find_call k w hR)
 clear hR
 go_enter Tryz.func70,Tryz.ntmps70
 go_wp2_with (go_at_call 82; (with_reducible refine (HF.out).mono ?_); rintro e w' ⟨rfl,rfl⟩; unfold ruleBlock)
 go_ret
 exact ⟨rfl,⟨[_,_],0⟩,rfl⟩
def nameCells:List Value:=[.string ⟨#[]⟩,.string ⟨#[110,111,114,109,97,108]⟩,.string ⟨#[109,117,108,116,105,112,108,121]⟩,.string ⟨#[115,99,114,101,101,110]⟩,.string ⟨#[111,118,101,114,108,97,121]⟩,.string ⟨#[100,97,114,107,101,110]⟩,.string ⟨#[108,105,103,104,116,101,110]⟩,.string ⟨#[99,111,108,111,114,45,100,111,100,103,101]⟩,.string ⟨#[99,111,108,111,114,45,98,117,114,110]⟩,.string ⟨#[104,97,114,100,45,108,105,103,104,116]⟩,.string ⟨#[115,111,102,116,45,108,105,103,104,116]⟩,.string ⟨#[100,105,102,102,101,114,101,110,99,101]⟩,.string ⟨#[101,120,99,108,117,115,105,111,110]⟩]
def Named (w:World):Prop:=∃ T fr,w.heap[0]? = some (.cells nameCells.toArray T fr)
theorem named_size {w:World} (h:Named w):0 < w.heap.size:=by
 obtain ⟨T,fr,h⟩:=h
 rcases Nat.lt_or_ge 0 w.heap.size with h1 | h1
 ·exact h1
 ·rw [Array.getElem?_eq_none h1] at h
  cases h
theorem named_cell {w:World} (h:Named w) (i:Nat):w.cell? ⟨0,i,none⟩ = nameCells[i]?:=by
 obtain ⟨T,fr,h⟩:=h
 simp [World.cell?,h]
theorem named_bel {w W:World} (h:Named w) (e:Bel w W):Named W:=by
 have hs:=named_size h
 obtain ⟨T,fr,h⟩:=h
 exact ⟨T,fr,(e.block _ hs).trans h⟩
def mdName (k:Int):ByteArray:=if k = 1 then ⟨#[110,111,114,109,97,108]⟩ else if k = 2 then ⟨#[109,117,108,116,105,112,108,121]⟩ else if k = 3 then ⟨#[115,99,114,101,101,110]⟩ else if k = 4 then ⟨#[111,118,101,114,108,97,121]⟩ else if k = 5 then ⟨#[100,97,114,107,101,110]⟩ else if k = 6 then ⟨#[108,105,103,104,116,101,110]⟩ else if k = 7 then ⟨#[99,111,108,111,114,45,100,111,100,103,101]⟩ else if k = 8 then ⟨#[99,111,108,111,114,45,98,117,114,110]⟩ else if k = 9 then ⟨#[104,97,114,100,45,108,105,103,104,116]⟩ else if k = 10 then ⟨#[115,111,102,116,45,108,105,103,104,116]⟩ else if k = 11 then ⟨#[100,105,102,102,101,114,101,110,99,101]⟩ else if k = 12 then ⟨#[101,120,99,108,117,115,105,111,110]⟩ else ⟨#[]⟩
theorem md_none {k:Int} (h:k < 1 ∨ 12 < k):mdName k = ⟨#[]⟩:=by
 unfold mdName
 repeat (rw [if_neg (by omega)])
theorem bvalid_call (k:Int) (w:World):Calls Tryz.prog 83 #[.int .i64 k] w fun e w' => e = .returned (.bool (opIs k)) ∧ w = w':=by
 by_cases h1:1 ≤ k
 ·by_cases h2:k ≤ 12
  ·rw [opIs_yes h1 h2]
   go_enter Tryz.func83,Tryz.ntmps83
   go_wp2_with fail
   go_returns
   exact ⟨rfl,rfl⟩
  ·rw [opIs_no (by omega)]
   go_enter Tryz.func83,Tryz.ntmps83
   go_wp2_with fail
   go_returns
   exact ⟨rfl,rfl⟩
 ·rw [opIs_no (by omega)]
  go_enter Tryz.func83,Tryz.ntmps83
  go_wp2_with fail
  go_returns
  exact ⟨rfl,rfl⟩
theorem tlVOp1 {p:Prop} (h:p:=by
  go_enter Tryz.func71,Tryz.ntmps71
  go_wp2_with (go_at_call 83; (with_reducible refine (hV.out _).mono ?_); rintro e w1 ⟨rfl,rfl⟩)
  go_returns
  exact ⟨rfl,rfl⟩):p:=h
set_option maxHeartbeats 2000000 in
theorem bname_call (k:Int) (w:World) (hN:Named w):Calls Tryz.prog 71 #[.int .i64 k] w fun e w' => e = .returned (.string (mdName k)) ∧ w = w':=by
 have hV:=hd_ (bvalid_call k)
 by_cases h:1 ≤ k ∧ k ≤ 12
 ·rw [opIs_yes h.1 h.2] at hV
  have hs:=named_size hN
  have hc:∀ i:Nat,w.cell? ⟨0,i,none⟩ = nameCells[i]?:=named_cell hN
  have HC:=hd_ hc
  clear hc hN
  rcases op_cases h.1 h.2 with rfl | rfl | rfl | rfl | rfl | rfl | rfl | rfl | rfl | rfl | rfl | rfl
  case' inl => have c0:=HC.out 1
  case' inr.inl => have c0:=HC.out 2
  case' inr.inr.inl => have c0:=HC.out 3
  case' inr.inr.inr.inl => have c0:=HC.out 4
  case' inr.inr.inr.inr.inl => have c0:=HC.out 5
  case' inr.inr.inr.inr.inr.inl => have c0:=HC.out 6
  case' inr.inr.inr.inr.inr.inr.inl => have c0:=HC.out 7
  case' inr.inr.inr.inr.inr.inr.inr.inl => have c0:=HC.out 8
  case' inr.inr.inr.inr.inr.inr.inr.inr.inl => have c0:=HC.out 9
  case' inr.inr.inr.inr.inr.inr.inr.inr.inr.inl => have c0:=HC.out 10
  case' inr.inr.inr.inr.inr.inr.inr.inr.inr.inr.inl => have c0:=HC.out 11
  case' inr.inr.inr.inr.inr.inr.inr.inr.inr.inr.inr => have c0:=HC.out 12
  all_goals
   clear h
   simp only [nameCells,List.getElem?_cons_succ,List.getElem?_cons_zero] at c0
   exact tlVOp1
 ·rw [opIs_no (by omega)] at hV
  rw [md_none (by omega)]
  clear h
  exact tlVOp1
theorem ba_loop (s:ByteArray) (i:Nat) (r:List UInt8):ByteArray.toList.loop s i r = [] → r = [] ∧ s.size ≤ i:=by
 induction i,r using ByteArray.toList.loop.induct (bs:=s) with
 | case1 i r h ih =>
  intro e
  rw [ByteArray.toList.loop,if_pos h] at e
  have:=(ih e).1
  simp at this
 | case2 i r h =>
  intro e
  rw [ByteArray.toList.loop,if_neg h] at e
  exact ⟨by simpa using e,by omega⟩
theorem ba_nil (s:ByteArray):s.toList = [] ↔ s.size = 0:=by
 constructor
 ·intro h
  have:=(ba_loop s 0 [] h).2
  omega
 ·intro h
  unfold ByteArray.toList
  rw [ByteArray.toList.loop,if_neg (by omega)]
  rfl
theorem opName_iff (k:Int):(opName k).toList = [] ↔ opIs k = false:=by
 rw [ba_nil]
 by_cases h:1 ≤ k ∧ k ≤ 12
 ·rcases op_cases h.1 h.2 with rfl | rfl | rfl | rfl | rfl | rfl | rfl | rfl | rfl | rfl | rfl | rfl <;> decide
 ·rw [opIs_no (by omega),(op_none (by omega)).1]
  decide
theorem mdName_iff (k:Int):(mdName k).toList = [] ↔ opIs k = false:=by
 rw [ba_nil]
 by_cases h:1 ≤ k ∧ k ≤ 12
 ·rcases op_cases h.1 h.2 with rfl | rfl | rfl | rfl | rfl | rfl | rfl | rfl | rfl | rfl | rfl | rfl <;> decide
 ·rw [opIs_no (by omega),md_none (by omega)]
  decide
open Go.ChangeShapes Go.WideShapes Go.ChangeAt Go.RowKit Go.Deep Go.Joins
theorem gNames:Tryz.prog.globalNamed "compositor/blend.names" = some 0:=by kernel_rfl
theorem tNames:(Tryz.prog.globals[0]?).map (·.type) = some 143:=by kernel_rfl
section
variable {H:Type} {enc:TypeId × Value → H}
theorem name_cell {w:World} {base:Nat} {sp:Nat → Bool} {held:Bool} {fuel:Nat} {v:Value} {y:DataW H × List MemPlace} {b:List UInt8}
  (h:DataW.trod enc Tryz.prog w base sp held fuel 9 [v] = some y) (hy:y.1 = .lit (.string b)):v = .string ⟨b.toArray⟩:=by
 obtain ⟨s,e0,rfl,_⟩:=DataW.trod_string Tryz.underlying9 h
 simp at hy e0
 subst e0
 have:s = ⟨b.toArray⟩:=by
  obtain ⟨⟨l⟩⟩:=s
  simp at hy
  subst hy; rfl
 rw [this]
theorem names_cells {w:World} {base:Nat} {sp:Nat → Bool} {held:Bool} {fuel:Nat} {cs:List Value} {p:List MemPlace}
  (h:DataW.trod enc Tryz.prog w base sp held fuel 143 cs = some (Rows.laid_compositor_blend_names,p)):cs = nameCells:=by
 obtain ⟨xs,m,_,hx,hlen,hn,hel⟩:=DataW.trod_array Tryz.underlying143 h
 have cR:Tryz.prog.cellsOf 9 = 1:=by kernel_rfl
 have cA:Tryz.prog.cellsOf 143 = 13:=by kernel_rfl
 simp only [Prod.mk.injEq,Rows.laid_compositor_blend_names,DataW.agg.injEq] at hx
 obtain ⟨a0,a1,a2,a3,a4,a5,a6,a7,a8,a9,a10,a11,a12,rfl⟩:=list13 hn
 simp only [List.map_cons,List.map_nil,List.cons.injEq] at hx
 obtain ⟨⟨x0,x1,x2,x3,x4,x5,x6,x7,x8,x9,x10,x11,x12,_⟩,_⟩:=hx
 rw [cA] at hlen
 rw [cR] at hel
 obtain ⟨c0,c1,c2,c3,c4,c5,c6,c7,c8,c9,c10,c11,c12,rfl⟩:=list13 hlen
 have k0:=name_cell (show DataW.trod enc Tryz.prog w base sp held m 9 [c0] = some a0 from hel 0 (by decide)) x0.symm
 have k1:=name_cell (show DataW.trod enc Tryz.prog w base sp held m 9 [c1] = some a1 from hel 1 (by decide)) x1.symm
 have k2:=name_cell (show DataW.trod enc Tryz.prog w base sp held m 9 [c2] = some a2 from hel 2 (by decide)) x2.symm
 have k3:=name_cell (show DataW.trod enc Tryz.prog w base sp held m 9 [c3] = some a3 from hel 3 (by decide)) x3.symm
 have k4:=name_cell (show DataW.trod enc Tryz.prog w base sp held m 9 [c4] = some a4 from hel 4 (by decide)) x4.symm
 have k5:=name_cell (show DataW.trod enc Tryz.prog w base sp held m 9 [c5] = some a5 from hel 5 (by decide)) x5.symm
 have k6:=name_cell (show DataW.trod enc Tryz.prog w base sp held m 9 [c6] = some a6 from hel 6 (by decide)) x6.symm
 have k7:=name_cell (show DataW.trod enc Tryz.prog w base sp held m 9 [c7] = some a7 from hel 7 (by decide)) x7.symm
 have k8:=name_cell (show DataW.trod enc Tryz.prog w base sp held m 9 [c8] = some a8 from hel 8 (by decide)) x8.symm
 have k9:=name_cell (show DataW.trod enc Tryz.prog w base sp held m 9 [c9] = some a9 from hel 9 (by decide)) x9.symm
 have k10:=name_cell (show DataW.trod enc Tryz.prog w base sp held m 9 [c10] = some a10 from hel 10 (by decide)) x10.symm
 have k11:=name_cell (show DataW.trod enc Tryz.prog w base sp held m 9 [c11] = some a11 from hel 11 (by decide)) x11.symm
 have k12:=name_cell (show DataW.trod enc Tryz.prog w base sp held m 9 [c12] = some a12 from hel 12 (by decide)) x12.symm
 subst k0 k1 k2 k3 k4 k5 k6 k7 k8 k9 k10 k11 k12
 rfl
end
theorem laid_both {W:World} (h:laidMetH Tryz.prog [("compositor/operator.rules",Rows.laid_compositor_operator_rules),("compositor/blend.names",Rows.laid_compositor_blend_names)] W):Ruled W ∧ Named W:=by
 rw [MakeChecks.laidMetH_plain _ _ _ (by kernel_rfl)] at h
 obtain ⟨ps,⟨g0,t0,cs0,f0,p0,q0,hg0,ht0,hv0,hd0,⟨g1,t1,cs1,f1,p1,q1,hg1,ht1,hv1,hd1,_,_⟩,_⟩,_,_⟩:=h
 obtain rfl:=Option.some.inj (gRules.symm.trans hg0)
 obtain rfl:=Option.some.inj (tRules.symm.trans ht0)
 obtain rfl:=Option.some.inj (gNames.symm.trans hg1)
 obtain rfl:=Option.some.inj (tNames.symm.trans ht1)
 have hc:=table_cells hd0
 have hc1:=names_cells hd1
 obtain ⟨l⟩:=cs0
 obtain ⟨l1⟩:=cs1
 simp only at hc hc1
 subst hc hc1
 simp only [World.var?,gRules,Option.bind_some] at hv0
 simp only [World.var?,gNames,Option.bind_some] at hv1
 constructor
 ·unfold Ruled
  split at hv0
  ·rename_i T fr hh
   simp only [Option.some.injEq] at hv0
   subst hv0
   exact ⟨_,_,hh⟩
  ·cases hv0
 ·unfold Named
  split at hv1
  ·rename_i T fr hh
   simp only [Option.some.injEq] at hv1
   subst hv1
   exact ⟨_,_,hh⟩
  ·cases hv1
theorem door_met2 (os:Os) (args:Array Value):laidMetH Tryz.prog [("compositor/operator.rules",Rows.laid_compositor_operator_rules),("compositor/blend.names",Rows.laid_compositor_blend_names)] ((World.doorLaid Tryz.prog 400 os).forCall (fun _ _ => 0) ⟨#[],args,[]⟩).memory :=
 laidMetH_of_parts3 (fuel:=8) (laidMet_of_run' 8 (by kernel_rfl) (by kernel_rfl)) (by kernel_rfl) (by kernel_rfl)
structure Pln where
 w:Int
 h:Int
 st:Int
 A:Option Addr
 n:Nat
 c:Nat
 xs:List Int
abbrev Pln.cs (p:Pln):List Value:=[.int .i64 p.w,.int .i64 p.h,.int .i64 p.st,.slice p.A p.n p.c]
abbrev Pln.v (p:Pln):Value:=.agg #[.int .i64 p.w,.int .i64 p.h,.int .i64 p.st,.slice p.A p.n p.c]
def smp (l:List Int):List Value:=l.map (.int .u16)
def Pln.In (W:World) (p:Pln):Prop:=p.n ≤ 1000000 ∧ Sl W 1 p.n p.A (smp p.xs)
theorem Pln.In.bel {W W':World} {p:Pln} (h:p.In W) (hb:Bel W W'):p.In W':=⟨h.1,h.2.bel hb⟩
theorem Pln.In.len {W:World} {p:Pln} (h:p.In W):p.xs.length = p.n:=by
 have:=h.2.1
 unfold smp at this
 rw [List.length_map] at this
 omega
structure Img where
 w:Int
 h:Int
 solid:Bool
 col:Px
 p0:Pln
 p1:Pln
 p2:Pln
 p3:Pln
 p4:Pln
abbrev Img.cs (m:Img):List Value:=[.int .i64 m.w,.int .i64 m.h,.bool m.solid,.int .u16 m.col.x,.int .u16 m.col.y,.int .u16 m.col.z,.int .u16 m.col.a,.int .u16 m.col.f,.int .i64 m.p0.w,.int .i64 m.p0.h,.int .i64 m.p0.st,.slice m.p0.A m.p0.n m.p0.c,.int .i64 m.p1.w,.int .i64 m.p1.h,.int .i64 m.p1.st,.slice m.p1.A m.p1.n m.p1.c,.int .i64 m.p2.w,.int .i64 m.p2.h,.int .i64 m.p2.st,.slice m.p2.A m.p2.n m.p2.c,.int .i64 m.p3.w,.int .i64 m.p3.h,.int .i64 m.p3.st,.slice m.p3.A m.p3.n m.p3.c,.int .i64 m.p4.w,.int .i64 m.p4.h,.int .i64 m.p4.st,.slice m.p4.A m.p4.n m.p4.c]
abbrev Img.v (m:Img):Value:=.agg #[.int .i64 m.w,.int .i64 m.h,.bool m.solid,.int .u16 m.col.x,.int .u16 m.col.y,.int .u16 m.col.z,.int .u16 m.col.a,.int .u16 m.col.f,.int .i64 m.p0.w,.int .i64 m.p0.h,.int .i64 m.p0.st,.slice m.p0.A m.p0.n m.p0.c,.int .i64 m.p1.w,.int .i64 m.p1.h,.int .i64 m.p1.st,.slice m.p1.A m.p1.n m.p1.c,.int .i64 m.p2.w,.int .i64 m.p2.h,.int .i64 m.p2.st,.slice m.p2.A m.p2.n m.p2.c,.int .i64 m.p3.w,.int .i64 m.p3.h,.int .i64 m.p3.st,.slice m.p3.A m.p3.n m.p3.c,.int .i64 m.p4.w,.int .i64 m.p4.h,.int .i64 m.p4.st,.slice m.p4.A m.p4.n m.p4.c]
structure Img.In (W:World) (m:Img):Prop where
 i0:m.p0.In W
 i1:m.p1.In W
 i2:m.p2.In W
 i3:m.p3.In W
 i4:m.p4.In W
theorem Img.In.bel {W W':World} {m:Img} (h:m.In W) (hb:Bel W W'):m.In W':=⟨h.i0.bel hb,h.i1.bel hb,h.i2.bel hb,h.i3.bel hb,h.i4.bel hb⟩
def imgs (l:List Img):List Value:=l.flatMap Img.cs
theorem imgs_len (l:List Img):(imgs l).length = l.length * 28:=flat_len (f:=Img.cs) (fun _ => rfl) l
theorem imgs_snoc (l:List Img) (p:Img):imgs (l ++ [p]) = imgs l ++ p.cs:=by unfold imgs; rw [List.flatMap_append]; simp
structure Opr where
 k:Int
 im:Int
 x:Int
 y:Int
 ms:Int
 mx:Int
 my:Int
 oc:Int
 op:Int
 md:Int
 iso:Bool
 kn:Bool
abbrev Opr.cs (o:Opr):List Value:=[.int .i64 o.k,.int .i64 o.im,.int .i64 o.x,.int .i64 o.y,.int .i64 o.ms,.int .i64 o.mx,.int .i64 o.my,.int .u16 o.oc,.int .i64 o.op,.int .i64 o.md,.bool o.iso,.bool o.kn]
abbrev Opr.v (o:Opr):Value:=.agg #[.int .i64 o.k,.int .i64 o.im,.int .i64 o.x,.int .i64 o.y,.int .i64 o.ms,.int .i64 o.mx,.int .i64 o.my,.int .u16 o.oc,.int .i64 o.op,.int .i64 o.md,.bool o.iso,.bool o.kn]
def oprs (l:List Opr):List Value:=l.flatMap Opr.cs
theorem oprs_len (l:List Opr):(oprs l).length = l.length * 12:=flat_len (f:=Opr.cs) (fun _ => rfl) l
theorem oprs_snoc (l:List Opr) (p:Opr):oprs (l ++ [p]) = oprs l ++ p.cs:=by unfold oprs; rw [List.flatMap_append]; simp
structure Scr where
 bits:Int
 can:Rc
 tw:Int
 th:Int
 oA:Option Addr
 on:Nat
 oc:Nat
 ord:List Int
 iA:Option Addr
 inn:Nat
 ic:Nat
 ims:List Img
 pA:Option Addr
 pn:Nat
 pc:Nat
 ops:List Opr
abbrev oIm (m:Img):Obj:=.cells #[.int .i64 m.w,.int .i64 m.h,.bool m.solid,.int .u16 m.col.x,.int .u16 m.col.y,.int .u16 m.col.z,.int .u16 m.col.a,.int .u16 m.col.f,.int .i64 m.p0.w,.int .i64 m.p0.h,.int .i64 m.p0.st,.slice m.p0.A m.p0.n m.p0.c,.int .i64 m.p1.w,.int .i64 m.p1.h,.int .i64 m.p1.st,.slice m.p1.A m.p1.n m.p1.c,.int .i64 m.p2.w,.int .i64 m.p2.h,.int .i64 m.p2.st,.slice m.p2.A m.p2.n m.p2.c,.int .i64 m.p3.w,.int .i64 m.p3.h,.int .i64 m.p3.st,.slice m.p3.A m.p3.n m.p3.c,.int .i64 m.p4.w,.int .i64 m.p4.h,.int .i64 m.p4.st,.slice m.p4.A m.p4.n m.p4.c] 46
abbrev oOp (o:Opr):Obj:=.cells #[.int .i64 o.k,.int .i64 o.im,.int .i64 o.x,.int .i64 o.y,.int .i64 o.ms,.int .i64 o.mx,.int .i64 o.my,.int .u16 o.oc,.int .i64 o.op,.int .i64 o.md,.bool o.iso,.bool o.kn] 29
abbrev oSp (s:Scr) (A:Option Addr) (n c:Nat):Obj:=.cells #[.int .i64 s.bits,.int .i64 s.can.x,.int .i64 s.can.y,.int .i64 s.can.u,.int .i64 s.can.v,.int .i64 s.tw,.int .i64 s.th,.slice s.oA s.on s.oc,.slice s.iA s.inn s.ic,.slice A n c] 38
abbrev oSc (s:Scr):Obj:=.cells #[.int .i64 s.bits,.int .i64 s.can.x,.int .i64 s.can.y,.int .i64 s.can.u,.int .i64 s.can.v,.int .i64 s.tw,.int .i64 s.th,.slice s.oA s.on s.oc,.slice s.iA s.inn s.ic,.slice s.pA s.pn s.pc] 38
abbrev Scr.cs (s:Scr):List Value:=[.int .i64 s.bits,.int .i64 s.can.x,.int .i64 s.can.y,.int .i64 s.can.u,.int .i64 s.can.v,.int .i64 s.tw,.int .i64 s.th,.slice s.oA s.on s.oc,.slice s.iA s.inn s.ic,.slice s.pA s.pn s.pc]
abbrev Scr.v (s:Scr):Value:=.agg #[.int .i64 s.bits,.int .i64 s.can.x,.int .i64 s.can.y,.int .i64 s.can.u,.int .i64 s.can.v,.int .i64 s.tw,.int .i64 s.th,.slice s.oA s.on s.oc,.slice s.iA s.inn s.ic,.slice s.pA s.pn s.pc]
structure Scr.In (W:World) (s:Scr):Prop where
 on:s.on ≤ 1000
 inn:s.inn ≤ 1000
 pn:s.pn ≤ 1000
 ord:Sl W 1 s.on s.oA (ints64 s.ord)
 ims:Sl W 28 s.inn s.iA (imgs s.ims)
 ops:Sl W 12 s.pn s.pA (oprs s.ops)
 img:∀ m ∈ s.ims,m.In W
theorem Scr.In.bel {W W':World} {s:Scr} (h:s.In W) (hb:Bel W W'):s.In W':=⟨h.on,h.inn,h.pn,h.ord.bel hb,h.ims.bel hb,h.ops.bel hb,fun m hm => (h.img m hm).bel hb⟩
theorem Scr.In.lord {W:World} {s:Scr} (h:s.In W):s.ord.length = s.on:=by
 have:=h.ord.1
 unfold ints64 at this
 rw [List.length_map] at this
 omega
theorem Scr.In.lims {W:World} {s:Scr} (h:s.In W):s.ims.length = s.inn:=by
 have:=h.ims.1
 rw [imgs_len] at this
 omega
theorem Scr.In.lops {W:World} {s:Scr} (h:s.In W):s.ops.length = s.pn:=by
 have:=h.ops.1
 rw [oprs_len] at this
 omega
theorem Sl.im {W:World} {n i:Nat} {A:Option Addr} {l:List Img} {p:Img} (h:Sl W 28 n A (imgs l)) (hi:l[i]? = some p) (hn:i < n) :
  ∃ g off,A = some ⟨g,off,none⟩ ∧ W.cell? ⟨g,off + i * 28,none⟩ = some (.int .i64 p.w) ∧ W.cell? ⟨g,off + i * 28 + 1,none⟩ = some (.int .i64 p.h) ∧ W.cell? ⟨g,off + i * 28 + 2,none⟩ = some (.bool p.solid) ∧ W.cell? ⟨g,off + i * 28 + 3,none⟩ = some (.int .u16 p.col.x) ∧ W.cell? ⟨g,off + i * 28 + 4,none⟩ = some (.int .u16 p.col.y) ∧ W.cell? ⟨g,off + i * 28 + 5,none⟩ = some (.int .u16 p.col.z) ∧ W.cell? ⟨g,off + i * 28 + 6,none⟩ = some (.int .u16 p.col.a) ∧ W.cell? ⟨g,off + i * 28 + 7,none⟩ = some (.int .u16 p.col.f) ∧ W.cell? ⟨g,off + i * 28 + 8,none⟩ = some (.int .i64 p.p0.w) ∧ W.cell? ⟨g,off + i * 28 + 9,none⟩ = some (.int .i64 p.p0.h) ∧ W.cell? ⟨g,off + i * 28 + 10,none⟩ = some (.int .i64 p.p0.st) ∧ W.cell? ⟨g,off + i * 28 + 11,none⟩ = some (.slice p.p0.A p.p0.n p.p0.c) ∧ W.cell? ⟨g,off + i * 28 + 12,none⟩ = some (.int .i64 p.p1.w) ∧ W.cell? ⟨g,off + i * 28 + 13,none⟩ = some (.int .i64 p.p1.h) ∧ W.cell? ⟨g,off + i * 28 + 14,none⟩ = some (.int .i64 p.p1.st) ∧ W.cell? ⟨g,off + i * 28 + 15,none⟩ = some (.slice p.p1.A p.p1.n p.p1.c) ∧ W.cell? ⟨g,off + i * 28 + 16,none⟩ = some (.int .i64 p.p2.w) ∧ W.cell? ⟨g,off + i * 28 + 17,none⟩ = some (.int .i64 p.p2.h) ∧ W.cell? ⟨g,off + i * 28 + 18,none⟩ = some (.int .i64 p.p2.st) ∧ W.cell? ⟨g,off + i * 28 + 19,none⟩ = some (.slice p.p2.A p.p2.n p.p2.c) ∧ W.cell? ⟨g,off + i * 28 + 20,none⟩ = some (.int .i64 p.p3.w) ∧ W.cell? ⟨g,off + i * 28 + 21,none⟩ = some (.int .i64 p.p3.h) ∧ W.cell? ⟨g,off + i * 28 + 22,none⟩ = some (.int .i64 p.p3.st) ∧ W.cell? ⟨g,off + i * 28 + 23,none⟩ = some (.slice p.p3.A p.p3.n p.p3.c) ∧ W.cell? ⟨g,off + i * 28 + 24,none⟩ = some (.int .i64 p.p4.w) ∧ W.cell? ⟨g,off + i * 28 + 25,none⟩ = some (.int .i64 p.p4.h) ∧ W.cell? ⟨g,off + i * 28 + 26,none⟩ = some (.int .i64 p.p4.st) ∧ W.cell? ⟨g,off + i * 28 + 27,none⟩ = some (.slice p.p4.A p.p4.n p.p4.c):=by
 obtain ⟨g,off,rfl,hc⟩:=h.2 (by omega)
 have k:∀ j u,j < 28 → p.cs[j]? = some u → W.cell? ⟨g,off + i * 28 + j,none⟩ = some u:=fun j u hj hu => by
  rw [Nat.add_assoc]
  exact hc _ u ((flat_get (f:=Img.cs) (fun _ => rfl) l i j p hi hj).trans hu)
 exact ⟨g,off,rfl,k 0 _ (by decide) rfl,k 1 _ (by decide) rfl,k 2 _ (by decide) rfl,k 3 _ (by decide) rfl,k 4 _ (by decide) rfl,k 5 _ (by decide) rfl,k 6 _ (by decide) rfl,k 7 _ (by decide) rfl,k 8 _ (by decide) rfl,k 9 _ (by decide) rfl,k 10 _ (by decide) rfl,k 11 _ (by decide) rfl,k 12 _ (by decide) rfl,k 13 _ (by decide) rfl,k 14 _ (by decide) rfl,k 15 _ (by decide) rfl,k 16 _ (by decide) rfl,k 17 _ (by decide) rfl,k 18 _ (by decide) rfl,k 19 _ (by decide) rfl,k 20 _ (by decide) rfl,k 21 _ (by decide) rfl,k 22 _ (by decide) rfl,k 23 _ (by decide) rfl,k 24 _ (by decide) rfl,k 25 _ (by decide) rfl,k 26 _ (by decide) rfl,k 27 _ (by decide) rfl⟩
theorem Sl.op {W:World} {n i:Nat} {A:Option Addr} {l:List Opr} {p:Opr} (h:Sl W 12 n A (oprs l)) (hi:l[i]? = some p) (hn:i < n) :
  ∃ g off,A = some ⟨g,off,none⟩ ∧ W.cell? ⟨g,off + i * 12,none⟩ = some (.int .i64 p.k) ∧ W.cell? ⟨g,off + i * 12 + 1,none⟩ = some (.int .i64 p.im) ∧ W.cell? ⟨g,off + i * 12 + 2,none⟩ = some (.int .i64 p.x) ∧ W.cell? ⟨g,off + i * 12 + 3,none⟩ = some (.int .i64 p.y) ∧ W.cell? ⟨g,off + i * 12 + 4,none⟩ = some (.int .i64 p.ms) ∧ W.cell? ⟨g,off + i * 12 + 5,none⟩ = some (.int .i64 p.mx) ∧ W.cell? ⟨g,off + i * 12 + 6,none⟩ = some (.int .i64 p.my) ∧ W.cell? ⟨g,off + i * 12 + 7,none⟩ = some (.int .u16 p.oc) ∧ W.cell? ⟨g,off + i * 12 + 8,none⟩ = some (.int .i64 p.op) ∧ W.cell? ⟨g,off + i * 12 + 9,none⟩ = some (.int .i64 p.md) ∧ W.cell? ⟨g,off + i * 12 + 10,none⟩ = some (.bool p.iso) ∧ W.cell? ⟨g,off + i * 12 + 11,none⟩ = some (.bool p.kn):=by
 obtain ⟨g,off,rfl,hc⟩:=h.2 (by omega)
 have k:∀ j u,j < 12 → p.cs[j]? = some u → W.cell? ⟨g,off + i * 12 + j,none⟩ = some u:=fun j u hj hu => by
  rw [Nat.add_assoc]
  exact hc _ u ((flat_get (f:=Opr.cs) (fun _ => rfl) l i j p hi hj).trans hu)
 exact ⟨g,off,rfl,k 0 _ (by decide) rfl,k 1 _ (by decide) rfl,k 2 _ (by decide) rfl,k 3 _ (by decide) rfl,k 4 _ (by decide) rfl,k 5 _ (by decide) rfl,k 6 _ (by decide) rfl,k 7 _ (by decide) rfl,k 8 _ (by decide) rfl,k 9 _ (by decide) rfl,k 10 _ (by decide) rfl,k 11 _ (by decide) rfl⟩
theorem Sl.int {W:World} {n i:Nat} {A:Option Addr} {l:List Int} {p:Int} (h:Sl W 1 n A (ints64 l)) (hi:l[i]? = some p) (hn:i < n) :
  ∃ g off,A = some ⟨g,off,none⟩ ∧ W.cell? ⟨g,off + i,none⟩ = some (.int .i64 p):=by
 obtain ⟨g,off,rfl,hc⟩:=h.2 (by omega)
 exact ⟨g,off,rfl,hc i _ (by unfold ints64; rw [List.getElem?_map,hi]; rfl)⟩
theorem Sl.sm {W:World} {n i:Nat} {A:Option Addr} {l:List Int} {p:Int} (h:Sl W 1 n A (smp l)) (hi:l[i]? = some p) (hn:i < n) :
  ∃ g off,A = some ⟨g,off,none⟩ ∧ W.cell? ⟨g,off + i,none⟩ = some (.int .u16 p):=by
 obtain ⟨g,off,rfl,hc⟩:=h.2 (by omega)
 exact ⟨g,off,rfl,hc i _ (by unfold smp; rw [List.getElem?_map,hi]; rfl)⟩
theorem calls_bs {P:Program} {f:FuncId} {args:Array Value} {w:World} {v:Value} (h:Calls P f args w fun e w' => e = .returned v ∧ w = w'):Calls P f args w fun e w' => e = .returned v ∧ Bel w w' :=
 h.mono fun _ _ ⟨he,hq⟩ => ⟨he,hq ▸ Bel.refl _⟩
theorem own_cut {w:World} {base k n c m:Nat} {e:TypeId} {A:Option Addr} {xs:List Value} (h:w.ownsRow base e k (.slice A n c) n xs) (hm:m ≤ n) (h0:0 < n):w.ownsRow base e k (.slice A m c) m (xs.take (m * k)):=by
 have hl:m * k ≤ xs.length:=by rw [h.1]; exact Nat.mul_le_mul_right k hm
 refine ⟨by rw [List.length_take,Nat.min_eq_left hl],?_⟩
 rcases h.2 with ⟨hv,rfl⟩ | ⟨g,cap,cur,e1,e2,e3,e4,e5,e6,e7⟩
 ·cases hv
  omega
 ·cases e1
  exact .inr ⟨g,_,cur,rfl,e2,e3,by omega,e5,e6,by rw [← e7,List.take_take,Nat.min_eq_left (Nat.mul_le_mul_right k hm)]⟩
theorem img_ld {W:World} {g:Nat} {v0 v1 v2 v3 v4 v5 v6 v7 v8 v9 v10 v11 v12 v13 v14 v15 v16 v17 v18 v19 v20 v21 v22 v23 v24 v25 v26 v27:Value} {t:TypeId} (e:W.heap[g]? = some (.cells #[v0,v1,v2,v3,v4,v5,v6,v7,v8,v9,v10,v11,v12,v13,v14,v15,v16,v17,v18,v19,v20,v21,v22,v23,v24,v25,v26,v27] t)):Sem.run Tryz.prog (Instr.loadAt 46 (.pointer (some ⟨g,0,none⟩))) W = .ok (.agg #[v0,v1,v2,v3,v4,v5,v6,v7,v8,v9,v10,v11,v12,v13,v14,v15,v16,v17,v18,v19,v20,v21,v22,v23,v24,v25,v26,v27]) W :=
 run_loadAt_mid (P:=Tryz.prog) W g 0 46 [v0,v1,v2,v3,v4,v5,v6,v7,v8,v9,v10,v11,v12,v13,v14,v15,v16,v17,v18,v19,v20,v21,v22,v23,v24,v25,v26,v27] _ (fun j v hv => by
  have hj:j < 28:=by have:=(List.getElem?_eq_some_iff.1 hv).1; simpa using this
  have hh:(j = 0 ∨ j = 1 ∨ j = 2 ∨ j = 3 ∨ j = 4 ∨ j = 5 ∨ j = 6 ∨ j = 7 ∨ j = 8 ∨ j = 9 ∨ j = 10 ∨ j = 11 ∨ j = 12 ∨ j = 13 ∨ j = 14 ∨ j = 15 ∨ j = 16 ∨ j = 17 ∨ j = 18 ∨ j = 19 ∨ j = 20 ∨ j = 21 ∨ j = 22 ∨ j = 23 ∨ j = 24 ∨ j = 25 ∨ j = 26 ∨ j = 27):=by omega
  rcases hh with rfl | rfl | rfl | rfl | rfl | rfl | rfl | rfl | rfl | rfl | rfl | rfl | rfl | rfl | rfl | rfl | rfl | rfl | rfl | rfl | rfl | rfl | rfl | rfl | rfl | rfl | rfl | rfl <;> exact cell_of e hv) Tryz.underlying46 (by rfl) (by kernel_rfl)
theorem pls_ld {W:World} {g:Nat} {v0 v1 v2 v3 v4 v5 v6 v7 v8 v9 v10 v11 v12 v13 v14 v15 v16 v17 v18 v19 v20 v21 v22 v23 v24 v25 v26 v27:Value} {t:TypeId} (e:W.heap[g]? = some (.cells #[v0,v1,v2,v3,v4,v5,v6,v7,v8,v9,v10,v11,v12,v13,v14,v15,v16,v17,v18,v19,v20,v21,v22,v23,v24,v25,v26,v27] t)):Sem.run Tryz.prog (Instr.loadAt 44 (.pointer (some ⟨g,8,none⟩))) W = .ok (.agg #[v8,v9,v10,v11,v12,v13,v14,v15,v16,v17,v18,v19,v20,v21,v22,v23,v24,v25,v26,v27]) W :=
 run_loadAt_mid (P:=Tryz.prog) W g 8 44 [v8,v9,v10,v11,v12,v13,v14,v15,v16,v17,v18,v19,v20,v21,v22,v23,v24,v25,v26,v27] _ (fun j v hv => by
  have hj:j < 20:=by have:=(List.getElem?_eq_some_iff.1 hv).1; simpa using this
  have hh:(j = 0 ∨ j = 1 ∨ j = 2 ∨ j = 3 ∨ j = 4 ∨ j = 5 ∨ j = 6 ∨ j = 7 ∨ j = 8 ∨ j = 9 ∨ j = 10 ∨ j = 11 ∨ j = 12 ∨ j = 13 ∨ j = 14 ∨ j = 15 ∨ j = 16 ∨ j = 17 ∨ j = 18 ∨ j = 19):=by omega
  rcases hh with rfl | rfl | rfl | rfl | rfl | rfl | rfl | rfl | rfl | rfl | rfl | rfl | rfl | rfl | rfl | rfl | rfl | rfl | rfl | rfl <;> exact cell_of e hv) Tryz.underlying44 (by rfl) (by kernel_rfl)
theorem pln_ld {W:World} {g:Nat} {v0 v1 v2 v3:Value} {t:TypeId} (e:W.heap[g]? = some (.cells #[v0,v1,v2,v3] t)):Sem.run Tryz.prog (Instr.loadAt 43 (.pointer (some ⟨g,0,none⟩))) W = .ok (.agg #[v0,v1,v2,v3]) W :=
 run_loadAt_mid (P:=Tryz.prog) W g 0 43 [v0,v1,v2,v3] _ (fun j v hv => by
  have hj:j < 4:=by have:=(List.getElem?_eq_some_iff.1 hv).1; simpa using this
  have hh:(j = 0 ∨ j = 1 ∨ j = 2 ∨ j = 3):=by omega
  rcases hh with rfl | rfl | rfl | rfl <;> exact cell_of e hv) Tryz.underlying43 (by rfl) (by kernel_rfl)
theorem opr_ld {W:World} {g:Nat} {v0 v1 v2 v3 v4 v5 v6 v7 v8 v9 v10 v11:Value} {t:TypeId} (e:W.heap[g]? = some (.cells #[v0,v1,v2,v3,v4,v5,v6,v7,v8,v9,v10,v11] t)):Sem.run Tryz.prog (Instr.loadAt 29 (.pointer (some ⟨g,0,none⟩))) W = .ok (.agg #[v0,v1,v2,v3,v4,v5,v6,v7,v8,v9,v10,v11]) W :=
 run_loadAt_mid (P:=Tryz.prog) W g 0 29 [v0,v1,v2,v3,v4,v5,v6,v7,v8,v9,v10,v11] _ (fun j v hv => by
  have hj:j < 12:=by have:=(List.getElem?_eq_some_iff.1 hv).1; simpa using this
  have hh:(j = 0 ∨ j = 1 ∨ j = 2 ∨ j = 3 ∨ j = 4 ∨ j = 5 ∨ j = 6 ∨ j = 7 ∨ j = 8 ∨ j = 9 ∨ j = 10 ∨ j = 11):=by omega
  rcases hh with rfl | rfl | rfl | rfl | rfl | rfl | rfl | rfl | rfl | rfl | rfl | rfl <;> exact cell_of e hv) Tryz.underlying29 (by rfl) (by kernel_rfl)
theorem scr_ld {W:World} {g:Nat} {v0 v1 v2 v3 v4 v5 v6 v7 v8 v9:Value} {t:TypeId} (e:W.heap[g]? = some (.cells #[v0,v1,v2,v3,v4,v5,v6,v7,v8,v9] t)):Sem.run Tryz.prog (Instr.loadAt 38 (.pointer (some ⟨g,0,none⟩))) W = .ok (.agg #[v0,v1,v2,v3,v4,v5,v6,v7,v8,v9]) W :=
 run_loadAt_mid (P:=Tryz.prog) W g 0 38 [v0,v1,v2,v3,v4,v5,v6,v7,v8,v9] _ (fun j v hv => by
  have hj:j < 10:=by have:=(List.getElem?_eq_some_iff.1 hv).1; simpa using this
  have hh:(j = 0 ∨ j = 1 ∨ j = 2 ∨ j = 3 ∨ j = 4 ∨ j = 5 ∨ j = 6 ∨ j = 7 ∨ j = 8 ∨ j = 9):=by omega
  rcases hh with rfl | rfl | rfl | rfl | rfl | rfl | rfl | rfl | rfl | rfl <;> exact cell_of e hv) Tryz.underlying38 (by rfl) (by kernel_rfl)
theorem rcs_ld {W:World} {g:Nat} {v0 v1 v2 v3:Value} {t:TypeId} (e:W.heap[g]? = some (.cells #[v0,v1,v2,v3] t)):Sem.run Tryz.prog (Instr.loadAt 34 (.pointer (some ⟨g,0,none⟩))) W = .ok (.agg #[v0,v1,v2,v3]) W :=
 run_loadAt_mid (P:=Tryz.prog) W g 0 34 [v0,v1,v2,v3] _ (fun j v hv => by
  have hj:j < 4:=by have:=(List.getElem?_eq_some_iff.1 hv).1; simpa using this
  have hh:(j = 0 ∨ j = 1 ∨ j = 2 ∨ j = 3):=by omega
  rcases hh with rfl | rfl | rfl | rfl <;> exact cell_of e hv) Tryz.underlying34 (by rfl) (by kernel_rfl)
theorem px_ld {W:World} {g:Nat} {v0 v1 v2 v3 v4:Value} {t:TypeId} (e:W.heap[g]? = some (.cells #[v0,v1,v2,v3,v4] t)):Sem.run Tryz.prog (Instr.loadAt 32 (.pointer (some ⟨g,0,none⟩))) W = .ok (.agg #[v0,v1,v2,v3,v4]) W :=
 run_loadAt_mid (P:=Tryz.prog) W g 0 32 [v0,v1,v2,v3,v4] _ (fun j v hv => by
  have hj:j < 5:=by have:=(List.getElem?_eq_some_iff.1 hv).1; simpa using this
  have hh:(j = 0 ∨ j = 1 ∨ j = 2 ∨ j = 3 ∨ j = 4):=by omega
  rcases hh with rfl | rfl | rfl | rfl | rfl <;> exact cell_of e hv) Tryz.underlying32 (by rfl) (by kernel_rfl)
theorem wpList_ld {P:Program} {ops:Array Oper} {rest:List Oper} {op:Oper} {a:Act} {w:World} {Q:Exit → Act → World → Prop} {ty:TypeId} {x:Operand} {g o:Nat} {v:Value} (hgd:op.guard = none) (ho:op.op = .load ty x)
  (hx:a.eval x = .pointer (some ⟨g,o,none⟩)) (hl:Sem.run P (Instr.loadAt ty (.pointer (some ⟨g,o,none⟩))) w = .ok v w) (h:wpList P ops Q rest (a.put op.dst v) w):wpList P ops Q (op :: rest) a w :=
 wpList_plain hgd fun K hK => by
  unfold Oper.wp execOp
  simp only [ho,hx]
  rw [Sem.run_bind,hl]
  exact hK _ _ h
structure Upd (g:Nat) (w W:World):Prop where
 os:W.os = w.os
 tape:W.tape = w.tape
 output:W.output = w.output
 size:W.heap.size = w.heap.size
 block:∀ b,b ≠ g → W.heap[b]? = w.heap[b]?
theorem Upd.heap {g b:Nat} {w W:World} {o:Obj} (h:Upd g w W) (e:w.heap[b]? = some o) (hb:b ≠ g):W.heap[b]? = some o:=(h.block b hb).trans e
theorem Upd.bel {g:Nat} {w W V:World} (h:Upd g W V) (hb:Bel w W) (hg:w.heap.size ≤ g):Bel w V :=
 ⟨h.os.trans hb.os,h.tape.trans hb.tape,h.output.trans hb.output,by rw [h.size]; exact hb.size,fun k hk => (h.block k (by omega)).trans (hb.block k hk)⟩
theorem setCells_upd (g:Nat) (vs:List Value):∀ (o:Nat) (w:World),Upd g w (w.setCells g o vs):=by
 induction vs with
 | nil => exact fun o w => ⟨rfl,rfl,rfl,rfl,fun _ _ => rfl⟩
 | cons v vs ih =>
  intro o w
  have h:=ih (o + 1) (w.setCell ⟨g,o,none⟩ v)
  refine ⟨h.os,h.tape,h.output,h.size.trans (size_setCell _ _ _),fun b hb => (h.block b hb).trans ?_⟩
  exact heap_set_other v (fun e => hb e.symm) rfl
theorem setCells_heap (g:Nat) (t:TypeId) (vs:List Value):∀ (o:Nat) (w:World) (cs:Array Value),w.heap[g]? = some (.cells cs t) → ∃ cs':Array Value,(w.setCells g o vs).heap[g]? = some (.cells cs' t) ∧ cs'.size = cs.size ∧ (∀ j,j < o → cs'[j]? = cs[j]?) ∧ (∀ j,o + vs.length ≤ j → cs'[j]? = cs[j]?) ∧ (o + vs.length ≤ cs.size → ∀ j v,vs[j]? = some v → cs'[o + j]? = some v):=by
 induction vs with
 | nil => exact fun o w cs e => ⟨cs,e,rfl,fun _ _ => rfl,fun _ _ => rfl,fun _ j v h => by simp at h⟩
 | cons v vs ih =>
  intro o w cs e
  obtain ⟨cs',e',hs,hlo,hhi,hin⟩:=ih (o + 1) (w.setCell ⟨g,o,none⟩ v) (cs.setIfInBounds o v) (heap_set v e)
  refine ⟨cs',e',by rw [hs]; simp,fun j hj => ?_,fun j hj => ?_,fun hl j u hu => ?_⟩
  ·rw [hlo j (by omega),Array.getElem?_setIfInBounds,if_neg (by omega)]
  ·rw [hhi j (by simp at hj; omega),Array.getElem?_setIfInBounds,if_neg (by simp at hj; omega)]
  ·cases j with
   | zero =>
    simp at hu hl
    rw [Nat.add_zero,hlo o (by omega),Array.getElem?_setIfInBounds,if_pos rfl,if_pos (by omega),hu]
   | succ j =>
    have:=hin (by simp at hl ⊢; omega) j u (by simpa using hu)
    rw [show o + (j + 1) = o + 1 + j by omega]
    exact this
theorem wpList_st {P:Program} {ops:Array Oper} {rest:List Oper} {op:Oper} {a:Act} {w:World} {Q:Exit → Act → World → Prop} {ty t:TypeId} {x y:Operand} {g n:Nat} {vs:Array Value} {cells:List Value} (hgd:op.guard = none) (ho:op.op = .store ty x y)
  (hx:a.eval x = .pointer (some ⟨g,0,none⟩)) (hy:a.eval y = .agg cells.toArray) (e:w.heap[g]? = some (.cells vs t)) (hs:vs.size = cells.length) (hi:(P.info? ty).map (·.size) = some cells.length) (h1:∀ v ∈ cells,v.oneCell' = true)
  (h:∀ W,W.heap[g]? = some (.cells cells.toArray t) → Upd g w W → wpList P ops Q rest (a.put op.dst undef) W):wpList P ops Q (op :: rest) a w:=by
 have ht:w.there g 0 cells.length:=fun j hj => ⟨by
  rw [Nat.zero_add,cell_of e (Array.getElem?_eq_getElem (by omega))]
  rfl,froz_cells e⟩
 refine wpList_store_mid hgd ty x y ho g 0 cells.toArray hx hy (by simpa using ht) (by simpa using hi) (all_oneCell_toArray h1) (h _ ?_ (setCells_upd _ _ _ _))
 obtain ⟨cs',e',hs',-,-,hin⟩:=setCells_heap g t cells 0 w vs e
 have:cs' = cells.toArray:=by
  apply Array.ext_getElem?
  intro j
  rcases Nat.lt_or_ge j cells.length with hj | hj
  ·have:=hin (by omega) j _ (List.getElem?_eq_getElem hj)
   rw [Nat.zero_add] at this
   rw [this]
   simp [hj]
  ·rw [Array.getElem?_eq_none (by omega),Array.getElem?_eq_none (by simpa using hj)]
 rw [this] at e'
 simpa using e'
structure Bw (w:World) where
 W:World
 h:Bel w W
instance (w:World):Nonempty (Bw w):=⟨⟨w,Bel.refl w⟩⟩
def Bq (w:World) (w':World):Prop:=∃ q:Bw w,w' = q.W
theorem Bq.of {w W:World} (h:Bel w W):∃ q:Bw w,W = q.W:=⟨⟨W,h⟩,rfl⟩
theorem calls_bq {P:Program} {f:FuncId} {args:Array Value} {w:World} {q:Bw w} {v:Value} (h:Calls P f args q.W fun e w' => e = .returned v ∧ Bel q.W w') :
  Calls P f args q.W fun e w'' => e = .returned v ∧ ∃ q':Bw w,w'' = q'.W:=h.mono fun _ _ ⟨he,hb⟩ => ⟨he,Bq.of (q.h.trans hb)⟩
theorem region_bel {P:Program} {id:Nat} {Q:Exit → Act → World → Prop} {a:Act} {w:World} {l:List Oper} (hm:P.follows .mixedOrders = true) (hB:Region.lexB .any l.toArray = true)
  (h:wpQuiet P l.toArray (fun w' => ∃ q:Bw w,w' = q.W) (fun a' => ∀ w',(∃ q:Bw w,w' = q.W) → Q .normal a' w') l a):(Code.region id l.toArray true).wp P Q a w :=
 wp_region_quiet (C:=fun w' => ∃ q:Bw w,w' = q.W) hm hB (Bq.of (Bel.refl w).dr) (by simpa using h)
theorem region_btail {P:Program} {id:Nat} {Q:Exit → Act → World → Prop} {a:Act} {w:World} {l:List Oper} (n:Nat) (hm:P.follows .mixedOrders = true) (hB:Region.lexTailB .any l.toArray n = true)
  (h:wpQuiet P l.toArray (fun w' => ∃ q:Bw w,w' = q.W) (fun a' => ∀ w',(∃ q:Bw w,w' = q.W) → wpList P l.toArray Q (l.drop n) a' w') (l.take n) a):(Code.region id l.toArray true).wp P Q a w :=
 wp_region_quiet_tail (C:=fun w' => ∃ q:Bw w,w' = q.W) n hm hB (Bq.of (Bel.refl w).dr) h
theorem wpQuiet_ld {P:Program} {ops:Array Oper} {C:World → Prop} {Q:Act → Prop} {rest:List Oper} {op:Oper} {a:Act} {ty:TypeId} {x:Operand} {g o:Nat} {v:Value} (hgd:op.guard = none) (ho:op.op = .load ty x)
  (hx:a.eval x = .pointer (some ⟨g,o,none⟩)) (hl:∀ w,C w → Sem.run P (Instr.loadAt ty (.pointer (some ⟨g,o,none⟩))) w = .ok v w) (h:wpQuiet P ops C Q rest (a.put op.dst v)):wpQuiet P ops C Q (op :: rest) a:=by
 unfold wpQuiet
 rw [if_pos (by unfold Region.wanted; rw [hgd])]
 refine ⟨v,fun w hw => ?_,h⟩
 unfold Oper.quietAt execOp
 simp only [ho,hx]
 rw [Sem.run_bind,hl w hw]
 exact ⟨rfl,rfl⟩
section
variable {P:Program} {ops:Array Oper} {md:Region.Mode} {C:World → Prop}
theorem quiet_round {n l:Nat} {o:Oper} {a:Act} {w:World} {K:Act → Prop} {K':Act → World → Prop} {Q':Exit → Act → World → Prop} (hnd:∀ c,o.op ≠ .defer c) (hw:C w) (h:∀ a w',C w' → K a → K' a w') (hh:o.quiet P a C K):o.wpIn (Fence.wide.inRound l) n P a w K' Q':=by
 obtain ⟨v,h1,h2⟩:=hh
 have h3:=h1 w hw
 unfold Oper.quietAt at h3
 refine ⟨fun _ _ => trivial,?_⟩
 rw [Oper.semAt_plain _ _ _ hnd]
 generalize (execOp a.eval o).run P w = r at *
 cases r with
 | ok nx w' =>
  cases nx <;> simp only [Oper.quietUpon] at h3
  case value u =>
   obtain ⟨rfl,rfl⟩:=h3
   exact h _ _ hw h2
  case skip =>
   obtain ⟨rfl,rfl⟩:=h3
   exact h _ _ hw h2
  case enter f args =>
   obtain ⟨rfl,h4⟩:=h3
   refine ⟨(fun h => by cases h),CallsIn.inRound l (callsIn_wide.2 (h4.mono ?_))⟩
   rintro e w'' ⟨rfl,hc⟩
   exact h _ _ hc h2
 | _ => exact absurd h3 (by simp [Oper.quietUpon])
theorem anyIn_round {n l:Nat} (hnd:∀ (i:Nat) (o:Oper) c,ops[i]? = some o → o.op ≠ .defer c) {Q:Act → Prop} {Q':Exit → Act → World → Prop} (hQ:∀ a w,C w → Q a → Q' .normal a w):∀ (fuel:Nat) (listed:Array Bool) (a:Act) (w:World),C w →
  wpAnyQ P md ops C Q fuel listed a → wpAnyIn (Fence.wide.inRound l) n P md ops Q' fuel listed a w
 | 0,_,_,_,hw,h => ⟨h.1,hQ _ _ hw h.2⟩
 | fuel + 1,listed,a,w,hw,h => ⟨fun h0 => hQ _ _ hw (h.1 h0),fun i hi => by
   have hq:=h.2 i hi
   unfold qOp at hq
   unfold wpOpIn
   split
   ·rename_i ho
    simp only [ho] at hq
    exact anyIn_round hnd hQ fuel _ _ _ hw hq
   ·rename_i o ho
    simp only [ho] at hq
    split
    ·rename_i hwn
     simp only [hwn,if_true] at hq
     exact quiet_round (fun c => hnd i o c ho) hw (fun a' w' hw' h' => anyIn_round hnd hQ fuel _ a' w' hw' h') hq
    ·rename_i hwn
     simp only [hwn] at hq
     exact ⟨fun _ _ => trivial,anyIn_round hnd hQ fuel _ _ _ hw hq⟩⟩
end
theorem region_round {P:Program} {n lp id:Nat} {Q:Exit → Act → World → Prop} {a:Act} {w:World} {l:List Oper} (hm:P.follows .mixedOrders = true) (hB:Region.lexB .any l.toArray = true) (hnd:∀ o ∈ l,∀ c,o.op ≠ .defer c)
  (h:wpQuiet P l.toArray (fun w' => ∃ q:Bw w,w' = q.W) (fun a' => ∀ w',(∃ q:Bw w,w' = q.W) → Q .normal a' w') l a):(Code.region id l.toArray true).wpIn (Fence.wide.inRound lp) n P Q a w:=by
 have hB':=hB
 simp only [Region.lexB,Bool.and_eq_true] at hB
 refine wpIn_region_any hm (anyIn_round (C:=fun w' => ∃ q:Bw w,w' = q.W) (fun i o c ho => hnd o (by simpa using List.mem_of_getElem? (by simpa using ho)) c) (Q:=fun a' => ∀ w',(∃ q:Bw w,w' = q.W) → Q .normal a' w') (fun _ w' hw' h => h w' hw') _ _ _ _ (Bq.of (Bel.refl w).dr) ?_)
 have:=wpAnyQ_lex (C:=fun w' => ∃ q:Bw w,w' = q.W) (md:=.any) hB.1 l 0 (Array.replicate l.toArray.size false) a (by simp) (by simpa using hB.2) h
 simpa using this
def cntOk (c:Rc) (w h:Int):Bool:=!c.emp && decide (1 ≤ w) && decide (w ≤ c.u - c.x) && decide (1 ≤ h) && decide (h ≤ c.v - c.y)
def cntX (c:Rc) (w h:Int):Int:=if cntOk c w h then (c.u - c.x + w - 1) / w else 0
def cntY (c:Rc) (w h:Int):Int:=if cntOk c w h then (c.v - c.y + h - 1) / h else 0
theorem cntOk_iff {c:Rc} {w h:Int}:cntOk c w h = true ↔ c.emp = false ∧ 1 ≤ w ∧ w ≤ c.u - c.x ∧ 1 ≤ h ∧ h ≤ c.v - c.y:=by
 unfold cntOk
 cases c.emp <;> simp [and_assoc]
theorem div_ceil {a b:Int} (h1:1 ≤ b) (h2:b ≤ a):1 ≤ (a + b - 1) / b ∧ (a + b - 1) / b ≤ a:=by
 constructor
 ·exact (Int.le_ediv_iff_mul_le (by omega)).2 (by omega)
 ·have:(a + b - 1) / b < a + 1:=Int.ediv_lt_of_lt_mul (by omega) (by
   have:=Int.mul_le_mul_of_nonneg_left (show 1 ≤ b from h1) (show 0 ≤ a by omega)
   rw [Int.add_mul]
   omega)
  omega
set_option maxHeartbeats 4000000 in
theorem count_emp (c:Rc) (w h:Int) (he:c.emp = true) (W:World):Calls Tryz.prog 51 #[c.val,.int .i64 w,.int .i64 h] W fun e w' => e = .returned (.tuple #[.int .i64 0,.int .i64 0,.bool false]) ∧ Bel W w':=by
 have hE:=hd_ (calls_b (rempty_call c))
 rw [he] at hE
 clear he
 go_enter Tryz.func51,Tryz.ntmps51
 go_upto_region 1 with fail
 refine at_world (fun V => Bel W V ∧ V.heap[W.heap.size]? = some (.cells #[.int .i64 c.x,.int .i64 c.y,.int .i64 c.u,.int .i64 c.v] 34)) ⟨(Bel.refl W).al _,at_new (by first | rfl | simp)⟩ ?_
 rintro V ⟨hX,eC⟩
 have Cs:=lt_of_heap eC
 have C_0:=cq0 eC rfl
 have C_1:=cq1 eC rfl
 have C_2:=cq2 eC rfl
 have C_3:=cq3 eC rfl
 have fC:=frozA eC
 go_wp2_with (first | (go_at_call 48; (with_reducible refine (hE.out _).mono ?_); rintro e w1 ⟨rfl,hb⟩; replace hX:=hX.trans hb; replace eC:=hb.heap eC; clear Cs C_0 C_1 C_2 C_3 fC; have Cs:=lt_of_heap eC; have C_0:=cq0 eC rfl; have C_1:=cq1 eC rfl; have C_2:=cq2 eC rfl; have C_3:=cq3 eC rfl; have fC:=frozA eC; clear hb) | fail)
 go_ret3
 exact ⟨rfl,hX⟩
theorem tlUTile0 {p:Prop} (h:p:=by
  have f1:IntKind.i64.wrap (c.u - c.x) = c.u - c.x:=wrap_i64 _ (by omega) (by omega)
  have f2:IntKind.i64.wrap (c.v - c.y) = c.v - c.y:=wrap_i64 _ (by omega) (by omega)
  clear he hg
  go_enter Tryz.func51,Tryz.ntmps51
  go_upto_region 1 with fail
  refine at_world (fun V => Bel W V ∧ V.heap[W.heap.size]? = some (.cells #[.int .i64 c.x,.int .i64 c.y,.int .i64 c.u,.int .i64 c.v] 34)) ⟨(Bel.refl W).al _,at_new (by first | rfl | simp)⟩ ?_
  rintro V ⟨hX,eC⟩
  have Cs:=lt_of_heap eC
  have C_0:=cq0 eC rfl
  have C_1:=cq1 eC rfl
  have C_2:=cq2 eC rfl
  have C_3:=cq3 eC rfl
  have fC:=frozA eC
  go_upto_region 3 with (first | (go_at_call 48; (with_reducible refine (hE.out _).mono ?_); rintro e w1 ⟨rfl,hb⟩; replace hX:=hX.trans hb; replace eC:=hb.heap eC; clear Cs C_0 C_1 C_2 C_3 fC; have Cs:=lt_of_heap eC; have C_0:=cq0 eC rfl; have C_1:=cq1 eC rfl; have C_2:=cq2 eC rfl; have C_3:=cq3 eC rfl; have fC:=frozA eC; clear hb) | fail)
  have qC_0:=fun q:Bw w1 => q.h.cell C_0
  have qC_1:=fun q:Bw w1 => q.h.cell C_1
  have qC_2:=fun q:Bw w1 => q.h.cell C_2
  have qC_3:=fun q:Bw w1 => q.h.cell C_3
  refine region_bel (by kernel_rfl) (by kernel_rfl) ?_
  repeat (go_big_quiet_step (fail))
  refine wpQuiet_nil ?_
  rintro w2 ⟨q,rfl⟩
  go_wp2_with fail
  go_ret3
  exact ⟨rfl,hX.trans q.h⟩):p:=h
set_option maxHeartbeats 4000000 in
theorem count_w0 (c:Rc) (w h:Int) (he:c.emp = false) (h1:w < 1) (W:World):Calls Tryz.prog 51 #[c.val,.int .i64 w,.int .i64 h] W fun e w' => e = .returned (.tuple #[.int .i64 0,.int .i64 0,.bool false]) ∧ Bel W w':=by
 have hE:=hd_ (calls_b (rempty_call c))
 rw [he] at hE
 obtain ⟨hg,hx,hy⟩:=(emp_iff c).1 he
 obtain ⟨⟨g0,g1⟩,⟨g2,g3⟩,⟨g4,g5⟩,⟨g6,g7⟩⟩:=(good_iff c).1 hg
 exact tlUTile0
set_option maxHeartbeats 4000000 in
theorem count_w1 (c:Rc) (w h:Int) (he:c.emp = false) (h1:1 ≤ w) (h2:c.u - c.x < w) (W:World):Calls Tryz.prog 51 #[c.val,.int .i64 w,.int .i64 h] W fun e w' => e = .returned (.tuple #[.int .i64 0,.int .i64 0,.bool false]) ∧ Bel W w':=by
 have hE:=hd_ (calls_b (rempty_call c))
 rw [he] at hE
 obtain ⟨hg,hx,hy⟩:=(emp_iff c).1 he
 obtain ⟨⟨g0,g1⟩,⟨g2,g3⟩,⟨g4,g5⟩,⟨g6,g7⟩⟩:=(good_iff c).1 hg
 have h2b:decide (c.u - c.x < w) = true:=decide_eq_true h2
 exact tlUTile0
set_option maxHeartbeats 4000000 in
theorem count_h0 (c:Rc) (w h:Int) (he:c.emp = false) (h1:1 ≤ w) (h2:w ≤ c.u - c.x) (h3:h < 1) (W:World):Calls Tryz.prog 51 #[c.val,.int .i64 w,.int .i64 h] W fun e w' => e = .returned (.tuple #[.int .i64 0,.int .i64 0,.bool false]) ∧ Bel W w':=by
 have hE:=hd_ (calls_b (rempty_call c))
 rw [he] at hE
 obtain ⟨hg,hx,hy⟩:=(emp_iff c).1 he
 obtain ⟨⟨g0,g1⟩,⟨g2,g3⟩,⟨g4,g5⟩,⟨g6,g7⟩⟩:=(good_iff c).1 hg
 have h2b:decide (c.u - c.x < w) = false:=decide_eq_false (by omega)
 exact tlUTile0
set_option maxHeartbeats 4000000 in
theorem count_h1 (c:Rc) (w h:Int) (he:c.emp = false) (h1:1 ≤ w) (h2:w ≤ c.u - c.x) (h3:1 ≤ h) (h4:c.v - c.y < h) (W:World):Calls Tryz.prog 51 #[c.val,.int .i64 w,.int .i64 h] W fun e w' => e = .returned (.tuple #[.int .i64 0,.int .i64 0,.bool false]) ∧ Bel W w':=by
 have hE:=hd_ (calls_b (rempty_call c))
 rw [he] at hE
 obtain ⟨hg,hx,hy⟩:=(emp_iff c).1 he
 obtain ⟨⟨g0,g1⟩,⟨g2,g3⟩,⟨g4,g5⟩,⟨g6,g7⟩⟩:=(good_iff c).1 hg
 have h2b:decide (c.u - c.x < w) = false:=decide_eq_false (by omega)
 have h4b:decide (c.v - c.y < h) = true:=decide_eq_true h4
 exact tlUTile0
set_option maxHeartbeats 4000000 in
theorem count_ok (c:Rc) (w h:Int) (he:c.emp = false) (h1:1 ≤ w) (h2:w ≤ c.u - c.x) (h3:1 ≤ h) (h4:h ≤ c.v - c.y) (W:World):Calls Tryz.prog 51 #[c.val,.int .i64 w,.int .i64 h] W fun e w' => e = .returned (.tuple #[.int .i64 ((c.u - c.x + w - 1) / w),.int .i64 ((c.v - c.y + h - 1) / h),.bool true]) ∧ Bel W w':=by
 have hE:=hd_ (calls_b (rempty_call c))
 rw [he] at hE
 obtain ⟨hg,hx,hy⟩:=(emp_iff c).1 he
 obtain ⟨⟨g0,g1⟩,⟨g2,g3⟩,⟨g4,g5⟩,⟨g6,g7⟩⟩:=(good_iff c).1 hg
 have h2b:decide (c.u - c.x < w) = false:=decide_eq_false (by omega)
 have h4b:decide (c.v - c.y < h) = false:=decide_eq_false (by omega)
 have f1:IntKind.i64.wrap (c.u - c.x) = c.u - c.x:=wrap_i64 _ (by omega) (by omega)
 have f2:IntKind.i64.wrap (c.v - c.y) = c.v - c.y:=wrap_i64 _ (by omega) (by omega)
 clear he hg
 go_enter Tryz.func51,Tryz.ntmps51
 go_upto_region 1 with fail
 refine at_world (fun V => Bel W V ∧ V.heap[W.heap.size]? = some (.cells #[.int .i64 c.x,.int .i64 c.y,.int .i64 c.u,.int .i64 c.v] 34)) ⟨(Bel.refl W).al _,at_new (by first | rfl | simp)⟩ ?_
 rintro V ⟨hX,eC⟩
 have Cs:=lt_of_heap eC
 have C_0:=cq0 eC rfl
 have C_1:=cq1 eC rfl
 have C_2:=cq2 eC rfl
 have C_3:=cq3 eC rfl
 have fC:=frozA eC
 go_upto_region 3 with (first | (go_at_call 48; (with_reducible refine (hE.out _).mono ?_); rintro e w1 ⟨rfl,hb⟩; replace hX:=hX.trans hb; replace eC:=hb.heap eC; clear Cs C_0 C_1 C_2 C_3 fC; have Cs:=lt_of_heap eC; have C_0:=cq0 eC rfl; have C_1:=cq1 eC rfl; have C_2:=cq2 eC rfl; have C_3:=cq3 eC rfl; have fC:=frozA eC; clear hb) | fail)
 have qC_0:=fun q:Bw w1 => q.h.cell C_0
 have qC_1:=fun q:Bw w1 => q.h.cell C_1
 have qC_2:=fun q:Bw w1 => q.h.cell C_2
 have qC_3:=fun q:Bw w1 => q.h.cell C_3
 refine region_bel (by kernel_rfl) (by kernel_rfl) ?_
 repeat (go_big_quiet_step (fail))
 refine wpQuiet_nil ?_
 rintro w2 ⟨q,rfl⟩
 go_upto_region 6 with fail
 have f3:IntKind.i64.wrap (c.u - c.x + w) = c.u - c.x + w:=wrap_i64 _ (by omega) (by omega)
 have f4:IntKind.i64.wrap (c.u - c.x + w - 1) = c.u - c.x + w - 1:=wrap_i64 _ (by omega) (by omega)
 have f5:IntKind.i64.wrap (c.v - c.y + h) = c.v - c.y + h:=wrap_i64 _ (by omega) (by omega)
 have f6:IntKind.i64.wrap (c.v - c.y + h - 1) = c.v - c.y + h - 1:=wrap_i64 _ (by omega) (by omega)
 obtain ⟨d0,d1⟩:=div_ceil h1 h2
 obtain ⟨d2,d3⟩:=div_ceil h3 h4
 obtain ⟨D1,e1⟩:∃ D,D = (c.u - c.x + w - 1) / w:=⟨_,rfl⟩
 obtain ⟨D2,e2⟩:∃ D,D = (c.v - c.y + h - 1) / h:=⟨_,rfl⟩
 rw [← e1] at d0 d1
 rw [← e2] at d2 d3
 have t1:Int.tdiv (c.u - c.x + w - 1) w = D1:=by rw [e1]; exact Int.tdiv_eq_ediv_of_nonneg (by omega)
 have t2:Int.tdiv (c.v - c.y + h - 1) h = D2:=by rw [e2]; exact Int.tdiv_eq_ediv_of_nonneg (by omega)
 have E1:=hd_ e1
 have E2:=hd_ e2
 clear e1 e2
 have t3:IntKind.i64.wrap D1 = D1:=wrap_i64 _ (by omega) (by omega)
 have t4:IntKind.i64.wrap D2 = D2:=wrap_i64 _ (by omega) (by omega)
 have n1:(w == 0) = false:=beq_eq_false_iff_ne.2 (by omega)
 have n2:(h == 0) = false:=beq_eq_false_iff_ne.2 (by omega)
 refine region_bel (by kernel_rfl) (by kernel_rfl) ?_
 repeat (go_big_quiet_step (fail))
 refine wpQuiet_nil ?_
 rintro w3 ⟨q3,rfl⟩
 go_wp2_with fail
 go_ret3
 have e1:=E1.out
 have e2:=E2.out
 subst e1 e2
 exact ⟨rfl,(hX.trans q.h).trans q3.h⟩
theorem count_call (c:Rc) (w h:Int) (W:World):Calls Tryz.prog 51 #[c.val,.int .i64 w,.int .i64 h] W fun e w' => e = .returned (.tuple #[.int .i64 (cntX c w h),.int .i64 (cntY c w h),.bool (cntOk c w h)]) ∧ Bel W w':=by
 have bad:∀ (hb:cntOk c w h = false),(Calls Tryz.prog 51 #[c.val,.int .i64 w,.int .i64 h] W fun e w' => e = .returned (.tuple #[.int .i64 0,.int .i64 0,.bool false]) ∧ Bel W w') → Calls Tryz.prog 51 #[c.val,.int .i64 w,.int .i64 h] W fun e w' => e = .returned (.tuple #[.int .i64 (cntX c w h),.int .i64 (cntY c w h),.bool (cntOk c w h)]) ∧ Bel W w':=fun hb hc => by
  unfold cntX cntY
  rw [hb]
  exact hc
 cases he:c.emp
 case true => exact bad (Bool.eq_false_iff.2 fun k => by have:=(cntOk_iff.1 k).1; rw [he] at this; cases this) (count_emp c w h he W)
 by_cases h1:1 ≤ w
 case neg => exact bad (Bool.eq_false_iff.2 fun k => h1 (cntOk_iff.1 k).2.1) (count_w0 c w h he (by omega) W)
 by_cases h2:w ≤ c.u - c.x
 case neg => exact bad (Bool.eq_false_iff.2 fun k => h2 (cntOk_iff.1 k).2.2.1) (count_w1 c w h he h1 (by omega) W)
 by_cases h3:1 ≤ h
 case neg => exact bad (Bool.eq_false_iff.2 fun k => h3 (cntOk_iff.1 k).2.2.2.1) (count_h0 c w h he h1 h2 (by omega) W)
 by_cases h4:h ≤ c.v - c.y
 case neg => exact bad (Bool.eq_false_iff.2 fun k => h4 (cntOk_iff.1 k).2.2.2.2) (count_h1 c w h he h1 h2 h3 (by omega) W)
 have hok:cntOk c w h = true:=cntOk_iff.2 ⟨he,h1,h2,h3,h4⟩
 unfold cntX cntY
 rw [hok,if_pos rfl,if_pos rfl]
 exact count_ok c w h he h1 h2 h3 h4 W
def tRect (c:Rc) (w h i:Int):Rc:=⟨c.x + i % cntX c w h * w,c.y + i / cntX c w h * h,min (c.x + i % cntX c w h * w + w) c.u,min (c.y + i / cntX c w h * h + h) c.v⟩
theorem cnt_bd {c:Rc} {w h:Int} (hc:cntOk c w h = true):1 ≤ cntX c w h ∧ cntX c w h ≤ c.u - c.x ∧ 1 ≤ cntY c w h ∧ cntY c w h ≤ c.v - c.y:=by
 obtain ⟨he,h1,h2,h3,h4⟩:=cntOk_iff.1 hc
 unfold cntX cntY
 rw [if_pos hc,if_pos hc]
 exact ⟨(div_ceil h1 h2).1,(div_ceil h1 h2).2,(div_ceil h3 h4).1,(div_ceil h3 h4).2⟩
set_option maxHeartbeats 4000000 in
theorem tRect_call (c:Rc) (w h i:Int) (hc:cntOk c w h = true) (i0:0 ≤ i) (i1:i < cntX c w h * cntY c w h) (W:World):Calls Tryz.prog 59 #[c.val,.int .i64 w,.int .i64 h,.int .i64 i] W fun e w' => e = .returned (.tuple #[(tRect c w h i).val,.bool true]) ∧ Bel W w':=by
 have hE:=hd_ (fun W => count_call c w h W)
 rw [hc] at hE
 obtain ⟨he,h1,h2,h3,h4⟩:=cntOk_iff.1 hc
 obtain ⟨hg,hx,hy⟩:=(emp_iff c).1 he
 obtain ⟨⟨g0,g1⟩,⟨g2,g3⟩,⟨g4,g5⟩,⟨g6,g7⟩⟩:=(good_iff c).1 hg
 obtain ⟨n0,n1,n2,n3⟩:=cnt_bd hc
 unfold tRect
 generalize cntX c w h = nx at *
 generalize cntY c w h = ny at *
 have a0:0 ≤ i / nx:=Int.ediv_nonneg i0 (by omega)
 have a1:i / nx < ny:=Int.ediv_lt_of_lt_mul (by omega) (by rw [Int.mul_comm]; exact i1)
 have a2:0 ≤ i % nx:=Int.emod_nonneg _ (by omega)
 have a3:i % nx < nx:=Int.emod_lt_of_pos _ (by omega)
 have b1:=mul_bd (a:=i % nx) (b:=w) (by omega) (by omega) (by omega) (by omega)
 have b2:=mul_bd (a:=i / nx) (b:=h) (by omega) (by omega) (by omega) (by omega)
 have i9:i ≤ 9223372036854775807:=by
  have:=mul_bd (a:=nx) (b:=ny) (by omega) (by omega) (by omega) (by omega)
  omega
 obtain ⟨Q,eQ⟩:∃ Q,Q = i / nx:=⟨_,rfl⟩
 obtain ⟨M,eM⟩:∃ M,M = i % nx:=⟨_,rfl⟩
 rw [← eQ] at a0 a1 b2
 rw [← eM] at a2 a3 b1
 obtain ⟨X,eX⟩:∃ X,X = M * w:=⟨_,rfl⟩
 obtain ⟨Y,eY⟩:∃ Y,Y = Q * h:=⟨_,rfl⟩
 rw [← eX] at b1
 rw [← eY] at b2
 have t1:Int.tdiv i nx = Q:=by rw [eQ]; exact Int.tdiv_eq_ediv_of_nonneg i0
 have t2:Int.tmod i nx = M:=by rw [eM]; exact Int.tmod_eq_emod_of_nonneg i0
 have t3:IntKind.i64.wrap (M * w) = X:=by rw [eX]; exact wrap_i64 _ (by rw [← eX]; omega) (by rw [← eX]; omega)
 have t4:IntKind.i64.wrap (Q * h) = Y:=by rw [eY]; exact wrap_i64 _ (by rw [← eY]; omega) (by rw [← eY]; omega)
 have t5:IntKind.i64.wrap Q = Q:=wrap_i64 _ (by omega) (by omega)
 have t5b:IntKind.i64.wrap M = M:=wrap_i64 _ (by omega) (by omega)
 have t6:IntKind.i64.wrap (c.x + X) = c.x + X:=wrap_i64 _ (by omega) (by omega)
 have t7:IntKind.i64.wrap (c.y + Y) = c.y + Y:=wrap_i64 _ (by omega) (by omega)
 have EE:=hd_ (And.intro eQ (And.intro eM (And.intro eX eY)))
 have z1:(nx == 0) = false:=beq_eq_false_iff_ne.2 (by omega)
 have z2:(i < 0) = False:=eq_false (by omega)
 have t8:decide (ny ≤ Q) = false:=decide_eq_false (by omega)
 have hmax:=max_ints
 have hmin:=min_ints
 clear eQ eM eX eY hc he hg i1
 go_enter Tryz.func59,Tryz.ntmps59
 go_upto_region 1 with fail
 refine at_world (fun V => Bel W V ∧ V.heap[W.heap.size]? = some (.cells #[.int .i64 c.x,.int .i64 c.y,.int .i64 c.u,.int .i64 c.v] 34) ∧ V.heap[W.heap.size + 1]? = some (.cells #[.int .i64 0,.int .i64 0,.int .i64 0,.int .i64 0] 34)) ⟨((Bel.refl W).al _).al _,at_old (at_new (by first | rfl | simp)),at_new (by first | rfl | simp)⟩ ?_
 rintro V ⟨hX,eC,eO⟩
 have Cs:=lt_of_heap eC
 have Os:=lt_of_heap eO
 have C_0:=cq0 eC rfl
 have C_1:=cq1 eC rfl
 have C_2:=cq2 eC rfl
 have C_3:=cq3 eC rfl
 have O_0:=cq0 eO rfl
 have O_1:=cq1 eO rfl
 have O_2:=cq2 eO rfl
 have O_3:=cq3 eO rfl
 have fC:=frozA eC
 have fO:=frozA eO
 go_upto_region 4 with (first | (go_at_call 51; (with_reducible refine (hE.out _).mono ?_); rintro e w1 ⟨rfl,hb⟩; replace hX:=hX.trans hb; replace eC:=hb.heap eC; replace eO:=hb.heap eO; clear Cs C_0 C_1 C_2 C_3 fC Os O_0 O_1 O_2 O_3 fO; have Cs:=lt_of_heap eC; have Os:=lt_of_heap eO; have C_0:=cq0 eC rfl; have C_1:=cq1 eC rfl; have C_2:=cq2 eC rfl; have C_3:=cq3 eC rfl; have O_0:=cq0 eO rfl; have O_1:=cq1 eO rfl; have O_2:=cq2 eO rfl; have O_3:=cq3 eO rfl; have fC:=frozA eC; have fO:=frozA eO; clear hb) | fail)
 have qC_0:=fun q:Bw w1 => q.h.cell C_0
 have qC_1:=fun q:Bw w1 => q.h.cell C_1
 have qC_2:=fun q:Bw w1 => q.h.cell C_2
 have qC_3:=fun q:Bw w1 => q.h.cell C_3
 refine region_bel (by kernel_rfl) (by kernel_rfl) ?_
 repeat (go_big_quiet_step (fail))
 refine wpQuiet_nil ?_
 rintro w2 ⟨q,rfl⟩
 have hB:=hX.trans q.h
 have hs:=q.h.size
 replace eC:=q.h.heap eC
 replace eO:=q.h.heap eO
 clear qC_0 qC_1 qC_2 qC_3
 clear Cs C_0 C_1 C_2 C_3 fC Os O_0 O_1 O_2 O_3 fO
 have Cs:=lt_of_heap eC
 have Os:=lt_of_heap eO
 have C_0:=cq0 eC rfl
 have C_1:=cq1 eC rfl
 have C_2:=cq2 eC rfl
 have C_3:=cq3 eC rfl
 have O_0:=cq0 eO rfl
 have O_1:=cq1 eO rfl
 have O_2:=cq2 eO rfl
 have O_3:=cq3 eO rfl
 have fC:=frozA eC
 have fO:=frozA eO
 go_wp2_with fail
 refine bodyPost_ret (v:=.tuple #[.agg #[.int .i64 (c.x + X),.int .i64 (c.y + Y),.int .i64 (min (c.x + X + w) c.u),.int .i64 (min (c.y + Y + h) c.v)],.bool true]) (by simp [results,Tryz.results59,go_sem, *]) rfl ⟨?_,?_⟩
 ·obtain ⟨eQ,eM,eX,eY⟩:=EE.out
  subst eX eY
  subst eQ eM
  rfl
 ·repeat (with_reducible first | exact hB | refine Bel.setCell ?_ (by omega) _ | refine Bel.al ?_ _ | refine Bel.dr ?_ | refine Bel.mo ?_ _ | refine Bel.dn ?_ _)
open Go.RowKit Go.Shelf
attribute [local go_sem] Oper.semAt_some
def uptoP (wd y x:Nat):List (Int × Int):=(List.range y).flatMap (fun j:Nat => (List.range wd).map fun i:Nat => ((i:Int),(j:Int))) ++ (List.range x).map fun i:Nat => ((i:Int),(y:Int))
theorem uptoP_succ (wd y x:Nat):uptoP wd y (x + 1) = uptoP wd y x ++ [((x:Int),(y:Int))]:=by
 unfold uptoP
 rw [List.range_succ,List.map_append,List.append_assoc]
 rfl
theorem uptoP_row (wd y:Nat):uptoP wd (y + 1) 0 = uptoP wd y wd:=by
 unfold uptoP
 rw [List.range_succ (n:=y),List.flatMap_append]
 simp
theorem uptoP_len (wd y x:Nat):(uptoP wd y x).length = y * wd + x:=by
 unfold uptoP
 rw [List.length_append,List.length_map,List.length_range]
 congr 1
 induction y with
 | zero => simp
 | succ y ih => rw [List.range_succ,List.flatMap_append,List.length_append,ih,Nat.succ_mul]; simp
theorem uptoP_mem {wd y x:Nat} {p:Int × Int} (h:p ∈ uptoP wd y x):∃ i j:Nat,p = ((i:Int),(j:Int)) ∧ i < max wd x ∧ j ≤ y ∧ (j < y → i < wd):=by
 unfold uptoP at h
 rw [List.mem_append] at h
 rcases h with h | h
 ·obtain ⟨j,hj,h⟩:=List.mem_flatMap.1 h
  obtain ⟨i,hi,rfl⟩:=List.mem_map.1 h
  have:=List.mem_range.1 hj
  have:=List.mem_range.1 hi
  exact ⟨i,j,rfl,by omega,by omega,by omega⟩
 ·obtain ⟨i,hi,rfl⟩:=List.mem_map.1 h
  have:=List.mem_range.1 hi
  exact ⟨i,y,rfl,by omega,by omega,by omega⟩
theorem mem_uptoP {wd ht i j:Nat} (hi:i < wd) (hj:j < ht):((i:Int),(j:Int)) ∈ uptoP wd ht 0:=by
 unfold uptoP
 rw [List.mem_append]
 exact .inl (List.mem_flatMap.2 ⟨j,List.mem_range.2 hj,List.mem_map.2 ⟨i,List.mem_range.2 hi,rfl⟩⟩)
set_option maxHeartbeats 4000000 in
theorem places1_in (n:Nat) (hn:1 ≤ n) (l B1 B2 n₀ wd ht:Nat) (h1:wd ≤ 16777216) (h2:ht ≤ 16777216) (b1:B1 < n₀) (b2:B2 < n₀) (J Jx:List (Int × Int) → World → Prop)
  (hY:∀ pre x W,(∃ i j:Nat,x = ((i:Int),(j:Int)) ∧ i < wd ∧ j < ht) → J pre W → pre.length < ht * wd → YieldAt Fence.wide (n - 1) Tryz.prog l #[.int .i64 x.1,.int .i64 x.2] W fun e W' =>
   (e = .returned (.bool true) ∧ J (pre ++ [x]) W' ∧ Below n₀ W W') ∨ (e = .returned (.bool false) ∧ Jx (pre ++ [x]) W'))
  (W:World) (hB1:W.cell? ⟨B1,0,none⟩ = some (.int .i64 (ht:Int))) (hB2:W.cell? ⟨B2,0,none⟩ = some (.int .i64 (wd:Int))) (h0:J [] W) :
  CallsIn Fence.wide n Tryz.prog 68 #[.func (.yield l) #[] #[],.pointer (some ⟨B1,0,none⟩),.pointer (some ⟨B2,0,none⟩)] W fun e W' => (∃ v,e = .returned v) ∧
   ((∃ ys,ys = uptoP wd ht 0 ∧ J ys W') ∨ (∃ pre,(∃ y x,y < ht ∧ x < wd ∧ pre = uptoP wd y (x + 1)) ∧ Jx pre W')):=by
 refine callsIn_of_wp Tryz.func68 rfl trivial ?_ rfl
 simp only [Tryz.ntmps68,List.size_toArray,List.length_cons,List.length_nil,Nat.reduceAdd,Nat.reduceSub,Array.replicate_succ,Array.replicate_zero,List.push_toArray,List.append_toArray,List.nil_append,List.cons_append]
 have HY:=hd_ @hY
 clear hY
 gi_wp2
 gi_loopw [7] (fun i wr => ∃ y:Nat,y ≤ ht ∧ i = .int .i64 y ∧ J (uptoP wd y 0) wr ∧ Below n₀ W wr) (fun i _ => ht - (intOf i).toNat)
 case atStart => exact ⟨0,Nat.zero_le _,rfl,h0,Below.refl _ _⟩
 case round =>
  obtain ⟨y,hy0,rfl,hJs,hnx⟩:=hrel
  have hB1':=(hnx.cell (p:=⟨B1,0,none⟩) b1).trans hB1
  have hB2':=(hnx.cell (p:=⟨B2,0,none⟩) b2).trans hB2
  by_cases hlt:y < ht
  ·gi_wp2
   gi_loopw [11] (fun i wq => ∃ x:Nat,x ≤ wd ∧ i = .int .i64 x ∧ J (uptoP wd y x) wq ∧ Below n₀ W wq) (fun i _ => wd - (intOf i).toNat)
   case atStart => exact ⟨0,Nat.zero_le _,rfl,hJs,hnx⟩
   case round =>
    obtain ⟨x,hx0,rfl,hJs,hnx⟩:=hrel
    by_cases hxt:x < wd
    ·obtain ⟨fn,tmps,assign,body,hy,hR⟩:=HY.out _ ((x:Int),(y:Int)) wr ⟨x,y,rfl,hxt,hlt⟩ hJs (by
      rw [uptoP_len]
      have:(y + 1) * wd ≤ ht * wd:=Nat.mul_le_mul_right wd hlt
      rw [Nat.succ_mul] at this
      omega)
     gi_wp2
     refine hR.mono ?_
     rintro e W3 (⟨rfl,hJ3,hk3⟩ | ⟨rfl,hJx3⟩)
     ·gi_wp2
      go_roundw
      case rel => exact ⟨x + 1,by omega,by simp,by rw [uptoP_succ]; exact hJ3,hnx.trans hk3⟩
      case measure => simp [intOf]; omega
     ·gi_wp2
      refine bodyPost_ret (results_none rfl _ _ _) rfl ?_
      exact ⟨⟨_,rfl⟩,.inr ⟨_,⟨y,x,hlt,hxt,(uptoP_succ _ _ _).symm⟩,hJx3⟩⟩
    ·obtain rfl:x = wd:=by omega
     gi_wp2
     go_roundw
     case rel => exact ⟨y + 1,by omega,by simp,by rw [uptoP_row]; exact hJs,hnx⟩
     case measure => simp [intOf]; omega
  ·obtain rfl:y = ht:=by omega
   gi_wp2
   go_end0
   exact ⟨⟨_,rfl⟩,.inl ⟨_,rfl,hJs⟩⟩
abbrev Plc (wd ht:Nat):Type:={ p:Int × Int // ∃ i j:Nat,p = ((i:Int),(j:Int)) ∧ i < wd ∧ j < ht }
theorem places_stops (n:Nat) (hn:1 ≤ n) (B1 B2 n₀ wd ht:Nat) (h1:wd ≤ 16777216) (h2:ht ≤ 16777216) (w:World) (hn₀:n₀ ≤ w.heap.size) (b1:B1 < n₀) (b2:B2 < n₀)
  (hB1:w.cell? ⟨B1,0,none⟩ = some (.int .i64 (ht:Int))) (hB2:w.cell? ⟨B2,0,none⟩ = some (.int .i64 (wd:Int))) :
  SeqStopsK Fence.wide n Tryz.prog 68 #[.pointer (some ⟨B1,0,none⟩),.pointer (some ⟨B2,0,none⟩)] (fun x:Plc wd ht => #[Value.int .i64 x.1.1,.int .i64 x.1.2]) (Below n₀) (fun ys => ys.map (·.1) = uptoP wd ht 0) (fun pre => ∃ y x,y < ht ∧ x < wd ∧ pre.map (·.1) = uptoP wd y (x + 1)) (ht * wd) w:=fun l J Jx W hW _ _ hY h0 => by
 refine (places1_in n hn l B1 B2 n₀ wd ht h1 h2 b1 b2 (fun pre W => ∃ ys:List (Plc wd ht),ys.map (·.1) = pre ∧ J ys W) (fun pre W => ∃ ys:List (Plc wd ht),ys.map (·.1) = pre ∧ Jx ys W) ?_ W ((hW.cell (p:=⟨B1,0,none⟩) (Nat.lt_of_lt_of_le b1 hn₀)).trans hB1) ((hW.cell (p:=⟨B2,0,none⟩) (Nat.lt_of_lt_of_le b2 hn₀)).trans hB2) ⟨[],rfl,h0⟩).mono ?_
 ·rintro pre x W1 hx ⟨ys,rfl,hJ⟩ hlen
  refine YieldAt.mono (hY ys ⟨x,hx⟩ W1 hJ (by simpa using hlen)) ?_
  rintro e W' (⟨rfl,hJ',hk⟩ | ⟨rfl,hJ'⟩)
  ·exact .inl ⟨rfl,⟨_,by simp,hJ'⟩,hk⟩
  ·exact .inr ⟨rfl,⟨_,by simp,hJ'⟩⟩
 ·rintro e W' ⟨hv,h⟩
  refine ⟨hv,?_⟩
  rcases h with ⟨_,rfl,ys,hys,hJ⟩ | ⟨_,⟨y,x,hy,hx,rfl⟩,ys,hys,hJ⟩
  ·exact .inl ⟨ys,hys,hJ⟩
  ·exact .inr ⟨ys,⟨y,x,hy,hx,hys⟩,hJ⟩
theorem places_call (a b:Int) (w:World):Calls Tryz.prog 55 #[.int .i64 a,.int .i64 b] w fun e w' => e = .returned (.func (.func 68) #[] #[.pointer (some ⟨w.heap.size + 1,0,none⟩),.pointer (some ⟨w.heap.size,0,none⟩)]) ∧ (w.alloc (.cells #[.int .i64 a] 3)).alloc (.cells #[.int .i64 b] 3) = w':=by
 go_enter Tryz.func55,Tryz.ntmps55
 go_wp2_with fail
 go_ret
 exact ⟨rfl,rfl⟩
end Go.Proofs.YtepfoelgegljbaaGreatDoor
namespace Go.Proofs.YtepfoelgegljbaaGreatDoor
set_option maxRecDepth 100000
open Go.RowKit
set_option linter.unusedVariables false
def sizeB (a b:Int):Bool:=decide (1 ≤ a) && decide (1 ≤ b) && decide (a * b ≤ 16777216)
theorem sizeB_iff {a b:Int}:sizeB a b = true ↔ 1 ≤ a ∧ 1 ≤ b ∧ a * b ≤ 16777216:=by unfold sizeB; simp [and_assoc]
theorem size_div {a b:Int} (h:1 ≤ b):a ≤ 16777216 / b ↔ a * b ≤ 16777216:=Int.le_ediv_iff_mul_le (by omega)
theorem div_bd {b:Int} (h:1 ≤ b):0 ≤ 16777216 / b ∧ 16777216 / b ≤ 16777216:=⟨Int.ediv_nonneg (by decide) (by omega),by
 have:=Int.ediv_le_self (a:=16777216) b (by decide); exact this⟩
theorem tlUPlane4 {p:Prop} (h:p:=by
  rw [Bool.eq_iff_iff,sizeB_iff,decide_eq_true_iff,size_div h2]
  exact ⟨fun h => h.2.2,fun h => ⟨h1,h2,h⟩⟩):p:=h
theorem tlUPlane5 {p:Prop} (h:p:=by
  rw [e]
  go_enter Tryz.func93,Tryz.ntmps93
  go_wp2_with fail
  go_returns
  exact ⟨rfl,rfl⟩):p:=h
set_option maxHeartbeats 2000000 in
theorem psize_call (a b:Int) (w:World):Calls Tryz.prog 93 #[.int .i64 a,.int .i64 b] w fun e w' => e = .returned (.bool (sizeB a b)) ∧ w = w':=by
 by_cases h1:1 ≤ a
 case neg =>
  have e:sizeB a b = false:=Bool.eq_false_iff.2 fun h => h1 (sizeB_iff.1 h).1
  exact tlUPlane5
 by_cases h2:1 ≤ b
 case neg =>
  have e:sizeB a b = false:=Bool.eq_false_iff.2 fun h => h2 (sizeB_iff.1 h).2.1
  exact tlUPlane5
 have hq:=div_bd h2
 have e:sizeB a b = decide (a ≤ 16777216 / b):=by
  exact tlUPlane4
 rw [e]
 obtain ⟨q0,q1⟩:=hq
 have ht:Int.tdiv 16777216 b = 16777216 / b:=Int.tdiv_eq_ediv_of_nonneg (by decide)
 clear e
 go_enter Tryz.func93,Tryz.ntmps93
 go_wp2_with fail
 go_returns
 exact ⟨rfl,rfl⟩
theorem tlUPlane6 {p:Prop} (h:p:=by
  rw [e]
  go_enter Tryz.func62,Tryz.ntmps62
  go_wp2_with fail
  go_returns
  exact ⟨rfl,rfl⟩):p:=h
set_option maxHeartbeats 2000000 in
theorem isize_call (a b:Int) (w:World):Calls Tryz.prog 62 #[.int .i64 a,.int .i64 b] w fun e w' => e = .returned (.bool (sizeB a b)) ∧ w = w':=by
 by_cases h1:1 ≤ a
 case neg =>
  have e:sizeB a b = false:=Bool.eq_false_iff.2 fun h => h1 (sizeB_iff.1 h).1
  exact tlUPlane6
 by_cases h2:1 ≤ b
 case neg =>
  have e:sizeB a b = false:=Bool.eq_false_iff.2 fun h => h2 (sizeB_iff.1 h).2.1
  exact tlUPlane6
 have hq:=div_bd h2
 have e:sizeB a b = decide (a ≤ 16777216 / b):=by
  exact tlUPlane4
 rw [e]
 obtain ⟨q0,q1⟩:=hq
 have ht:Int.tdiv 16777216 b = 16777216 / b:=Int.tdiv_eq_ediv_of_nonneg (by decide)
 clear e
 go_enter Tryz.func62,Tryz.ntmps62
 go_wp2_with fail
 go_returns
 exact ⟨rfl,rfl⟩
theorem tlUPlane3 {p:Prop} (h:p:=by
  rw [e]
  go_enter Tryz.func37,Tryz.ntmps37
  go_wp2_with fail
  go_returns
  exact ⟨rfl,rfl⟩):p:=h
set_option maxHeartbeats 2000000 in
theorem fits_call (a b:Int) (w:World):Calls Tryz.prog 37 #[.int .i64 a,.int .i64 b] w fun e w' => e = .returned (.bool (sizeB a b)) ∧ w = w':=by
 by_cases h1:1 ≤ a
 case neg =>
  have e:sizeB a b = false:=Bool.eq_false_iff.2 fun h => h1 (sizeB_iff.1 h).1
  exact tlUPlane3
 by_cases h2:1 ≤ b
 case neg =>
  have e:sizeB a b = false:=Bool.eq_false_iff.2 fun h => h2 (sizeB_iff.1 h).2.1
  exact tlUPlane3
 by_cases h3:a ≤ 16777216
 case neg =>
  have e:sizeB a b = false:=Bool.eq_false_iff.2 fun h => by
   have h4:=(sizeB_iff.1 h).2.2
   have:=Int.mul_le_mul_of_nonneg_left h2 (show 0 ≤ a by omega)
   omega
  exact tlUPlane3
 have hq:=div_bd h1
 have e:sizeB a b = decide (b ≤ 16777216 / a):=by
  rw [Bool.eq_iff_iff,sizeB_iff,decide_eq_true_iff,size_div h1,Int.mul_comm b a]
  exact ⟨fun h => h.2.2,fun h => ⟨h1,h2,h⟩⟩
 rw [e]
 obtain ⟨q0,q1⟩:=hq
 have ht:Int.tdiv 16777216 a = 16777216 / a:=Int.tdiv_eq_ediv_of_nonneg (by decide)
 clear e
 go_enter Tryz.func37,Tryz.ntmps37
 go_wp2_with fail
 go_returns
 exact ⟨rfl,rfl⟩
set_option maxHeartbeats 2000000 in
theorem plen_call (a b s:Int) (a0:0 ≤ a) (a1:a ≤ 16777216) (b0:1 ≤ b) (b1:b ≤ 16777216) (s0:0 ≤ s) (s1:s ≤ 16777216) (w:World):Calls Tryz.prog 94 #[.int .i64 a,.int .i64 b,.int .i64 s] w fun e w' => e = .returned (.int .i64 ((b - 1) * s + a)) ∧ w = w':=by
 have m0:0 ≤ (b - 1) * s:=Int.mul_nonneg (by omega) s0
 have m1:(b - 1) * s ≤ 16777216 * 16777216:=Int.mul_le_mul (by omega) s1 s0 (by decide)
 have e0:IntKind.i64.wrap ((b - 1) * s) = (b - 1) * s:=wrap_i64 _ (by omega) (by omega)
 go_enter Tryz.func94,Tryz.ntmps94
 go_wp2_with fail
 go_returns
 exact ⟨rfl,rfl⟩
def plB (p:Pln):Bool:=sizeB p.w p.h && decide (p.w ≤ p.st) && decide (p.st ≤ 16777216) && decide ((p.h - 1) * p.st + p.w ≤ p.n)
theorem size_le {a b:Int} (h:sizeB a b = true):1 ≤ a ∧ a ≤ 16777216 ∧ 1 ≤ b ∧ b ≤ 16777216:=by
 obtain ⟨h1,h2,h3⟩:=sizeB_iff.1 h
 have k1:=Int.mul_le_mul_of_nonneg_left h2 (show 0 ≤ a by omega)
 have k2:=Int.mul_le_mul_of_nonneg_right h1 (show 0 ≤ b by omega)
 omega
theorem tlUPlane0 {p:Prop} (h:p:=by
  go_enter Tryz.func81,Tryz.ntmps81
  go_wp2_with fail
  have hmc:=more_cell
  refine region_more (by kernel_rfl) (by kernel_rfl) ?_
  repeat (go_big_quiet_step ((go_at_call 93; exact calls_more_same (hC.out _))))
  refine wpQuiet_nil ?_
  rintro w1 ⟨q,rfl⟩
  go_wp2_with fail
  go_returns
  exact ⟨rfl,((Bel.refl w).al _).mo _⟩):p:=h
set_option maxHeartbeats 2000000 in
theorem pvalid_call (p:Pln) (hn:p.n ≤ 1000000) (w:World):Calls Tryz.prog 81 #[p.v] w fun e w' => e = .returned (.bool (plB p)) ∧ Bel w w':=by
 have hC:=hd_ (fun w => psize_call p.w p.h w)
 unfold plB
 cases h1:sizeB p.w p.h
 case false =>
  rw [h1] at hC
  rw [Bool.false_and,Bool.false_and,Bool.false_and]
  clear h1
  exact tlUPlane0
 obtain ⟨s0,s1,s2,s3⟩:=size_le h1
 rw [h1] at hC
 rw [Bool.true_and]
 clear h1
 by_cases h2:p.w ≤ p.st
 case neg =>
  rw [decide_eq_false h2,Bool.false_and,Bool.false_and]
  have h2':decide (p.w ≤ p.st) = false:=decide_eq_false h2
  exact tlUPlane0
 by_cases h3:p.st ≤ 16777216
 case neg =>
  rw [decide_eq_false h3,Bool.and_false,Bool.false_and]
  have h3':decide (p.st ≤ 16777216) = false:=decide_eq_false h3
  have h2':decide (p.w ≤ p.st) = true:=decide_eq_true h2
  exact tlUPlane0
 rw [decide_eq_true h2,decide_eq_true h3,Bool.true_and,Bool.true_and]
 have h2':decide (p.w ≤ p.st) = true:=decide_eq_true h2
 have h3':decide (p.st ≤ 16777216) = true:=decide_eq_true h3
 have hL:=hd_ (fun w => plen_call p.w p.h p.st (by omega) s1 s2 s3 (by omega) h3 w)
 generalize (p.h - 1) * p.st + p.w = L at *
 go_enter Tryz.func81,Tryz.ntmps81
 go_wp2_with fail
 have hmc:=more_cell
 refine region_more (by kernel_rfl) (by kernel_rfl) ?_
 repeat (go_big_quiet_step ((first | (go_at_call 93; exact calls_more_same (hC.out _)) | (go_at_call 94; exact calls_more_same (hL.out _)))))
 refine wpQuiet_nil ?_
 rintro w1 ⟨q,rfl⟩
 go_wp2_with fail
 go_returns
 exact ⟨rfl,((Bel.refl w).al _).mo _⟩
theorem tlUPlane1 {p:Prop} (h:p:=by
  go_enter Tryz.func63,Tryz.ntmps63
  go_wp2_with (go_at_call 37; (with_reducible refine (hC.out _).mono ?_); rintro e w1 ⟨rfl,rfl⟩)
  go_returns
  exact ⟨rfl,(Bel.refl w).al _⟩):p:=h
set_option maxHeartbeats 2000000 in
theorem rpvalid_call (p:Pln) (hn:p.n ≤ 1000000) (w:World):Calls Tryz.prog 63 #[p.v] w fun e w' => e = .returned (.bool (plB p)) ∧ Bel w w':=by
 have hC:=hd_ (fun w => fits_call p.w p.h w)
 unfold plB
 cases h1:sizeB p.w p.h
 case false =>
  rw [h1] at hC
  rw [Bool.false_and,Bool.false_and,Bool.false_and]
  clear h1
  exact tlUPlane1
 obtain ⟨s0,s1,s2,s3⟩:=size_le h1
 rw [h1] at hC
 rw [Bool.true_and]
 clear h1
 by_cases h2:p.w ≤ p.st
 case neg =>
  rw [decide_eq_false h2,Bool.false_and,Bool.false_and]
  have h2':decide (p.w ≤ p.st) = false:=decide_eq_false h2
  exact tlUPlane1
 by_cases h3:p.st ≤ 16777216
 case neg =>
  rw [decide_eq_false h3,Bool.and_false,Bool.false_and]
  have h3':decide (p.st ≤ 16777216) = false:=decide_eq_false h3
  have h2':decide (p.w ≤ p.st) = true:=decide_eq_true h2
  exact tlUPlane1
 rw [decide_eq_true h2,decide_eq_true h3,Bool.true_and,Bool.true_and]
 have h2':decide (p.w ≤ p.st) = true:=decide_eq_true h2
 have h3':decide (p.st ≤ 16777216) = true:=decide_eq_true h3
 have m0:0 ≤ (p.h - 1) * p.st:=Int.mul_nonneg (by omega) (by omega)
 have m1:(p.h - 1) * p.st ≤ 16777216 * 16777216:=Int.mul_le_mul (by omega) h3 (by omega) (by decide)
 have e0:IntKind.i64.wrap (p.h - 1) = p.h - 1:=wrap_i64 _ (by omega) (by omega)
 have e1:IntKind.i64.wrap ((p.h - 1) * p.st) = (p.h - 1) * p.st:=wrap_i64 _ (by omega) (by omega)
 have e2:IntKind.i64.wrap ((p.h - 1) * p.st + p.w) = (p.h - 1) * p.st + p.w:=wrap_i64 _ (by omega) (by omega)
 exact tlUPlane1
theorem pz_iff (p:Pln):(decide (p.w = 0) && decide (p.h = 0) && decide (p.st = 0) && decide (p.n = 0)) = true ↔ p.w = 0 ∧ p.h = 0 ∧ p.st = 0 ∧ p.n = 0:=by simp [and_assoc]
def zeroB (p:Pln):Bool:=decide (p.w = 0) && decide (p.h = 0) && decide (p.st = 0) && decide (p.n = 0)
theorem tlUPlane2 {p:Prop} (h:p:=by
  go_enter Tryz.func80,Tryz.ntmps80
  go_wp2_with fail
  go_returns
  exact ⟨rfl,(Bel.refl w).al _⟩):p:=h
set_option maxHeartbeats 2000000 in
theorem izero_call (p:Pln) (hn:p.n ≤ 1000000) (w:World):Calls Tryz.prog 80 #[p.v] w fun e w' => e = .returned (.bool (zeroB p)) ∧ Bel w w':=by
 unfold zeroB
 by_cases h1:p.w = 0
 case neg =>
  rw [decide_eq_false h1,Bool.false_and,Bool.false_and,Bool.false_and]
  have hh:(p.w == 0) = false:=beq_eq_false_iff_ne.2 h1
  exact tlUPlane2
 by_cases h2:p.h = 0
 case neg =>
  rw [decide_eq_false h2,Bool.and_false,Bool.false_and,Bool.false_and]
  have hh:(p.w == 0) = true:=beq_iff_eq.2 h1
  have hh2:(p.h == 0) = false:=beq_eq_false_iff_ne.2 h2
  clear h1
  exact tlUPlane2
 by_cases h3:p.st = 0
 case neg =>
  rw [decide_eq_false h3,Bool.and_false,Bool.false_and]
  have hh:(p.w == 0) = true:=beq_iff_eq.2 h1
  have hh2:(p.h == 0) = true:=beq_iff_eq.2 h2
  have hh3:(p.st == 0) = false:=beq_eq_false_iff_ne.2 h3
  clear h1 h2
  exact tlUPlane2
 rw [decide_eq_true h1,decide_eq_true h2,decide_eq_true h3,Bool.true_and,Bool.true_and,Bool.true_and]
 have hh:(p.w == 0) = true:=beq_iff_eq.2 h1
 have hh2:(p.h == 0) = true:=beq_iff_eq.2 h2
 have hh3:(p.st == 0) = true:=beq_iff_eq.2 h3
 have hh4:(((p.n:Int)) == 0) = decide (p.n = 0):=by rw [Bool.eq_iff_iff,beq_iff_eq,decide_eq_true_iff]; omega
 generalize decide (p.n = 0) = D at *
 clear h1 h2 h3
 exact tlUPlane2
end Go.Proofs.YtepfoelgegljbaaGreatDoor
namespace Go.Proofs.YtepfoelgegljbaaGreatDoor
theorem sqn (a:Int):0 ≤ a * a:=by
 rcases Int.le_total 0 a with h | h
 ·exact Int.mul_nonneg h h
 ·exact Int.mul_nonneg_of_nonpos_of_nonpos h h
structure Grid (s a d b sd sb da ab:Int):Prop where
 s0:0 ≤ s
 sa:s ≤ a
 a1:a ≤ 65535
 d0:0 ≤ d
 db:d ≤ b
 b1:b ≤ 65535
 e1:s * d = sd
 e2:s * b = sb
 e3:d * a = da
 e4:a * b = ab
 p0:0 ≤ sd
 p1:sd ≤ sb
 p2:sd ≤ da
 p3:sb ≤ ab
 p4:da ≤ ab
 p5:sb + da ≤ ab + sd
 p6:ab ≤ 4294836225
theorem grid {s a d b:Int} (s0:0 ≤ s) (sa:s ≤ a) (a1:a ≤ 65535) (d0:0 ≤ d) (db:d ≤ b) (b1:b ≤ 65535):∃ sd sb da ab,Grid s a d b sd sb da ab:=by
 refine ⟨s * d,s * b,d * a,a * b,s0,sa,a1,d0,db,b1,rfl,rfl,rfl,rfl,Int.mul_nonneg s0 d0,Int.mul_le_mul_of_nonneg_left db s0,?_,Int.mul_le_mul_of_nonneg_right sa (by omega),?_,?_,?_⟩
 ·rw [Int.mul_comm d a]; exact Int.mul_le_mul_of_nonneg_right sa d0
 ·rw [Int.mul_comm d a]; exact Int.mul_le_mul_of_nonneg_left db (by omega)
 ·have h:0 ≤ (a - s) * (b - d):=Int.mul_nonneg (by omega) (by omega)
  rw [Int.sub_mul,Int.mul_sub,Int.mul_sub] at h
  rw [Int.mul_comm d a]
  omega
 ·exact Int.mul_le_mul a1 b1 (by omega) (by decide)
structure TermOk (a b P Q R D:Int):Prop where
 P0:0 ≤ P
 Q0:0 ≤ Q
 Q1:Q ≤ 65535
 R0:0 ≤ R
 R1:R ≤ b * b
 D0:1 ≤ D
 D1:D ≤ 4294836225
 le:P + Q * b ≤ a * b * D
theorem TermOk.frac {a b P D:Int} (P0:0 ≤ P) (D0:1 ≤ D) (D1:D ≤ 4294836225) (le:P ≤ a * b * D):TermOk a b P 0 0 D :=
 ⟨P0,by omega,by omega,by omega,by have:=sqn b; omega,D0,D1,by rw [Int.zero_mul]; omega⟩
theorem TermOk.one {a b P:Int} (P0:0 ≤ P) (le:P ≤ a * b):TermOk a b P 0 0 1:=.frac P0 (by omega) (by omega) (by omega)
variable {s a d b sd sb da ab:Int}
theorem Grid.twice_d (g:Grid s a d b sd sb da ab) (h:2 * d ≤ b):2 * s * d = 2 * sd ∧ 2 * sd ≤ ab:=by
 obtain ⟨s0,sa,a1,d0,db,b1,e1,e2,e3,e4,p0,p1,p2,p3,p4,p5,p6⟩:=g
 have:=Int.mul_le_mul_of_nonneg_left h s0
 rw [Int.mul_left_comm,e1,e2] at this
 exact ⟨by rw [Int.mul_assoc,e1],by omega⟩
theorem Grid.twice_s (g:Grid s a d b sd sb da ab) (h:2 * s ≤ a):2 * s * d = 2 * sd ∧ 2 * sd ≤ ab:=by
 obtain ⟨s0,sa,a1,d0,db,b1,e1,e2,e3,e4,p0,p1,p2,p3,p4,p5,p6⟩:=g
 have:=Int.mul_le_mul_of_nonneg_right h d0
 rw [Int.mul_assoc,e1,Int.mul_comm a d,e3] at this
 exact ⟨by rw [Int.mul_assoc,e1],by omega⟩
theorem Grid.rest (g:Grid s a d b sd sb da ab):2 * (b - d) * (a - s) = 2 * (ab - da - sb + sd):=by
 obtain ⟨s0,sa,a1,d0,db,b1,e1,e2,e3,e4,p0,p1,p2,p3,p4,p5,p6⟩:=g
 rw [Int.mul_assoc,Int.sub_mul,Int.mul_sub b,Int.mul_sub d,Int.mul_comm b a,Int.mul_comm b s,Int.mul_comm d s,e1,e2,e3,e4]
 omega
theorem Grid.rest_d (g:Grid s a d b sd sb da ab) (h:b < 2 * d):2 * (ab - da - sb + sd) ≤ ab:=by
 have r:=g.rest
 obtain ⟨s0,sa,a1,d0,db,b1,e1,e2,e3,e4,p0,p1,p2,p3,p4,p5,p6⟩:=g
 have h1:=Int.mul_le_mul_of_nonneg_right (show 2 * (b - d) ≤ b by omega) (show 0 ≤ a - s by omega)
 rw [r,Int.mul_sub,Int.mul_comm b a,e4,Int.mul_comm b s,e2] at h1
 omega
theorem Grid.rest_s (g:Grid s a d b sd sb da ab) (h:a < 2 * s):2 * (ab - da - sb + sd) ≤ ab:=by
 have r:=g.rest
 obtain ⟨s0,sa,a1,d0,db,b1,e1,e2,e3,e4,p0,p1,p2,p3,p4,p5,p6⟩:=g
 have h1:=Int.mul_le_mul_of_nonneg_left (show 2 * (a - s) ≤ a by omega) (show 0 ≤ b - d by omega)
 have e:(b - d) * (2 * (a - s)) = 2 * (b - d) * (a - s):=by rw [Int.mul_left_comm,Int.mul_assoc]
 rw [e,r,Int.sub_mul,Int.mul_comm b a,e4,e3] at h1
 omega
theorem Grid.dodge (g:Grid s a d b sd sb da ab) (h:da < ab - sb):1 ≤ a - s ∧ 0 ≤ a * a * d ∧ a * a * d ≤ a * b * (a - s) ∧ a * a ≤ 4294836225 ∧ 0 ≤ a * a ∧ a * a * d ≤ 4294836225 * 65535:=by
 obtain ⟨s0,sa,a1,d0,db,b1,e1,e2,e3,e4,p0,p1,p2,p3,p4,p5,p6⟩:=g
 have h0:1 ≤ a - s:=by
  apply Int.not_lt.1; intro c
  obtain rfl:s = a:=by omega
  omega
 have h1:a * da ≤ a * (ab - sb):=Int.mul_le_mul_of_nonneg_left (by omega) (by omega)
 have e5:a * a * d = a * da:=by rw [← e3,Int.mul_assoc,Int.mul_comm a d]
 have e6:a * b * (a - s) = a * (ab - sb):=by
  rw [Int.mul_assoc,Int.mul_sub,Int.mul_comm b a,Int.mul_comm b s,e4,e2]
 have h2:a * a ≤ 65535 * 65535:=Int.mul_le_mul a1 a1 (by omega) (by decide)
 have h3:0 ≤ a * a:=sqn a
 have h4:a * a * d ≤ 4294836225 * 65535:=Int.mul_le_mul (by omega) (by omega) d0 (by decide)
 exact ⟨h0,Int.mul_nonneg h3 d0,by rw [e5,e6]; exact h1,by omega,h3,h4⟩
theorem Grid.burn (g:Grid s a d b sd sb da ab) (h:ab - da < sb):1 ≤ s ∧ 0 ≤ (ab - da) * a ∧ (ab - da) * a ≤ ab * s ∧ ab * s ≤ 4294836225 * 65535:=by
 obtain ⟨s0,sa,a1,d0,db,b1,e1,e2,e3,e4,p0,p1,p2,p3,p4,p5,p6⟩:=g
 have h0:1 ≤ s:=by
  apply Int.not_lt.1; intro c
  obtain rfl:s = 0:=by omega
  rw [Int.zero_mul] at e2
  omega
 have h1:(ab - da) * a ≤ sb * a:=Int.mul_le_mul_of_nonneg_right (by omega) (by omega)
 have e5:ab * s = sb * a:=by rw [← e4,← e2,Int.mul_comm a b,Int.mul_assoc,Int.mul_comm a s,← Int.mul_assoc,Int.mul_comm b s]
 exact ⟨h0,Int.mul_nonneg (by omega) (by omega),by rw [e5]; exact h1,Int.mul_le_mul p6 (by omega) s0 (by decide)⟩
theorem Grid.soft2 (g:Grid s a d b sd sb da ab) (h:2 * s ≤ a):0 ≤ (a - 2 * s) * d ∧ (a - 2 * s) * d ≤ da ∧ 0 ≤ (a - 2 * s) * d * (b - d) ∧ (a - 2 * s) * d * (b - d) ≤ da * b ∧ da * b ≤ a * b * b ∧ da * b ≤ 4294836225 * 65535:=by
 obtain ⟨s0,sa,a1,d0,db,b1,e1,e2,e3,e4,p0,p1,p2,p3,p4,p5,p6⟩:=g
 have h1:(a - 2 * s) * d ≤ a * d:=Int.mul_le_mul_of_nonneg_right (by omega) d0
 rw [Int.mul_comm a d,e3] at h1
 have h0:0 ≤ (a - 2 * s) * d:=Int.mul_nonneg (by omega) d0
 have h2:(a - 2 * s) * d * (b - d) ≤ da * b:=Int.mul_le_mul h1 (by omega) (by omega) (by omega)
 have h3:da * b ≤ ab * b:=Int.mul_le_mul_of_nonneg_right p4 (by omega)
 have h4:da * b ≤ 4294836225 * 65535:=Int.mul_le_mul (by omega) b1 (by omega) (by decide)
 exact ⟨h0,h1,Int.mul_nonneg h0 (by omega),h2,by rw [e4]; exact h3,h4⟩
theorem tlTBl0 {p:Prop} (h:p:=by
  have h:=Int.mul_le_mul_of_nonneg_right hd (show 0 ≤ b by omega)
  rw [Int.mul_assoc] at h
  have:=sqn d
  omega):p:=h
theorem soft3 {s a d b:Int} (s1:a < 2 * s) (sa:s ≤ a) (a1:a ≤ 65535) (d0:0 ≤ d) (hd:4 * d ≤ b) (b1:b ≤ 65535) (b0:1 ≤ b) :
  ∃ dd bb db,d * d = dd ∧ b * b = bb ∧ d * b = db ∧ 16 * d * d = 16 * dd ∧ 3 * b * b = 3 * bb ∧ 12 * d * b = 12 * db ∧ 0 ≤ dd ∧ 1 ≤ bb ∧ bb ≤ 4294836225 ∧ 16 * dd ≤ bb ∧ 0 ≤ db ∧ 12 * db ≤ 16 * dd + 3 * bb ∧
   0 ≤ (2 * s - a) * d ∧ (2 * s - a) * d ≤ 4294836225 ∧ 0 ≤ (2 * s - a) * d * (16 * dd + 3 * bb - 12 * db) ∧
   0 ≤ d * a * b * b ∧ d * a * b * b + (2 * s - a) * d * (16 * dd + 3 * bb - 12 * db) ≤ a * b * bb:=by
 refine ⟨d * d,b * b,d * b,rfl,rfl,rfl,Int.mul_assoc _ _ _,Int.mul_assoc _ _ _,Int.mul_assoc _ _ _,sqn d,?_,?_,?_,Int.mul_nonneg d0 (by omega),?_,Int.mul_nonneg (by omega) d0,?_,?_,?_,?_⟩
 ·exact Int.mul_le_mul (a:=1) (b:=1) b0 b0 (by decide) (by omega)
 ·exact Int.mul_le_mul b1 b1 (by omega) (by decide)
 ·have h:=Int.mul_le_mul hd hd (show 0 ≤ 4 * d by omega) (show 0 ≤ b by omega)
  have e:4 * d * (4 * d) = 16 * (d * d):=by rw [Int.mul_assoc,Int.mul_left_comm d 4 d,← Int.mul_assoc]; rfl
  omega
 ·have h:=Int.mul_le_mul_of_nonneg_right hd (show 0 ≤ b by omega)
  rw [Int.mul_assoc] at h
  have:=sqn d
  omega
 ·exact Int.mul_le_mul (show 2 * s - a ≤ 65535 by omega) (show d ≤ 65535 by omega) d0 (by decide)
 ·refine Int.mul_nonneg (Int.mul_nonneg (by omega) d0) ?_
  exact tlTBl0
 ·exact Int.mul_nonneg (Int.mul_nonneg (Int.mul_nonneg d0 (by omega)) (by omega)) (by omega)
 ·have hX:0 ≤ 16 * (d * d) + 3 * (b * b) - 12 * (d * b):=by
   exact tlTBl0
  have h1:(2 * s - a) * d * (16 * (d * d) + 3 * (b * b) - 12 * (d * b)) ≤ a * d * (16 * (d * d) + 3 * (b * b) - 12 * (d * b)) :=
   Int.mul_le_mul_of_nonneg_right (Int.mul_le_mul_of_nonneg_right (by omega) d0) hX
  have e1:d * a * b * b = a * d * (b * b):=by rw [Int.mul_assoc,Int.mul_comm d a]
  have h2:a * d * (b * b) + a * d * (16 * (d * d) + 3 * (b * b) - 12 * (d * b)) = a * (d * (16 * (d * d) + 4 * (b * b) - 12 * (d * b))):=by
   rw [← Int.mul_add,Int.mul_assoc]; congr 2; omega
  have h3:d * (16 * (d * d) + 4 * (b * b) - 12 * (d * b)) ≤ b * (b * b):=by
   have p1:0 ≤ (b - 2 * d) * (b * b - 2 * (d * b) + 8 * (d * d)):=by
    refine Int.mul_nonneg (by omega) ?_
    have q1:=sqn (b - d)
    have q2:(b - d) * (b - d) = b * b - 2 * (d * b) + d * d:=by
     rw [Int.sub_mul,Int.mul_sub,Int.mul_sub,Int.mul_comm b d]; omega
    have q3:=sqn d
    omega
   have e:(b - 2 * d) * (b * b - 2 * (d * b) + 8 * (d * d)) = b * (b * b) - d * (16 * (d * d) + 4 * (b * b) - 12 * (d * b)):=by
    have c1:b * (d * b) = d * (b * b):=Int.mul_left_comm _ _ _
    have c2:b * (d * d) = d * (d * b):=by rw [Int.mul_comm,Int.mul_assoc]
    rw [Int.sub_mul,Int.mul_add,Int.mul_sub,Int.mul_left_comm b 2,c1,Int.mul_left_comm b 8,c2,Int.mul_assoc 2 d,Int.mul_add d,Int.mul_sub d,Int.mul_left_comm d 2 (d * b),Int.mul_left_comm d 8,
     Int.mul_sub d,Int.mul_add d,Int.mul_left_comm d 16,Int.mul_left_comm d 4,Int.mul_left_comm d 12]
    omega
   omega
  have h4:=Int.mul_le_mul_of_nonneg_left h3 (show 0 ≤ a by omega)
  have e2:a * b * (b * b) = a * (b * (b * b)):=Int.mul_assoc _ _ _
  omega
theorem Grid.soft4 (g:Grid s a d b sd sb da ab) (h:a < 2 * s):2 * d * (a - s) = 2 * (da - sd) ∧ TermOk a b (2 * (da - sd)) (2 * s - a) (d * b) 1:=by
 have gg:=g
 obtain ⟨s0,sa,a1,d0,db,b1,e1,e2,e3,e4,p0,p1,p2,p3,p4,p5,p6⟩:=g
 have e:2 * d * (a - s) = 2 * (da - sd):=by rw [Int.mul_assoc,Int.mul_sub,e3,Int.mul_comm d s,e1]
 refine ⟨e,by omega,by omega,by omega,Int.mul_nonneg d0 (by omega),Int.mul_le_mul_of_nonneg_right db (by omega),by omega,by omega,?_⟩
 rw [Int.sub_mul,Int.mul_assoc,e2,e4]
 omega
end Go.Proofs.YtepfoelgegljbaaGreatDoor
