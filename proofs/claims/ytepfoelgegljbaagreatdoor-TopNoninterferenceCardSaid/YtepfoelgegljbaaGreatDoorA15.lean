/- Part A15. -/
import Derived.Test.YtepfoelgegljbaaGreatDoorA06
import Derived.Test.YtepfoelgegljbaaGreatDoorA14
namespace Go.Proofs.YtepfoelgegljbaaGreatDoor
set_option maxRecDepth 100000
open Go.RowKit
set_option linter.unusedVariables false
structure PxOk (m x y z a f:Int):Prop where
 x0:0 ≤ x
 y0:0 ≤ y
 z0:0 ≤ z
 xa:x ≤ a
 ya:y ≤ a
 za:z ≤ a
 af:a ≤ f
 fm:f ≤ m
structure AcOk (m x y z a o f bx byy bz ba:Int):Prop where
 x0:0 ≤ x
 y0:0 ≤ y
 z0:0 ≤ z
 o0:0 ≤ o
 xa:x ≤ a
 ya:y ≤ a
 za:z ≤ a
 oa:o ≤ a
 of:o ≤ f
 am:a ≤ m
 fm:f ≤ m
 b:PxOk m bx byy bz ba ba
theorem PxOk.valid {m x y z a f:Int} (h:PxOk m x y z a f):validB x y z a f m = true:=decide_eq_true ⟨h.xa,h.ya,h.za,h.af,h.fm⟩
set_option maxHeartbeats 1000000 in
theorem gValid_call {m x y z a o f bx byy bz ba:Int} (hm:m = 255 ∨ m = 65535) (h:AcOk m x y z a o f bx byy bz ba) (w:World) :
  Calls Tryz.prog 98 #[.agg #[.int .u16 (x),.int .u16 (y),.int .u16 (z),.int .u16 (a),.int .u16 (o),.int .u16 (f)],.agg #[.int .u16 (bx),.int .u16 (byy),.int .u16 (bz),.int .u16 (ba),.int .u16 (ba)],.int .u16 m] w fun e w' => e = .returned (.bool true) ∧ ∃ p,w' = more w p:=by
 have hv:=fun w => valid_call bx byy bz ba ba m w
 rw [h.b.valid] at hv
 have HV:=hd_ @hv
 obtain ⟨x0,y0,z0,o0,xa,ya,za,oa,of',am,fm,hb⟩:=h
 clear hv hb
 have i0:∀ (b0 b1 b2:Value) (w:World),(Instr.index 30 (.agg #[b0,b1,b2]) (.int .i64 0)).run Tryz.prog w = .ok b0 w:=fun _ _ _  _ => by kernel_rfl
 have i1:∀ (b0 b1 b2:Value) (w:World),(Instr.index 30 (.agg #[b0,b1,b2]) (.int .i64 1)).run Tryz.prog w = .ok b1 w:=fun _ _ _  _ => by kernel_rfl
 have i2:∀ (b0 b1 b2:Value) (w:World),(Instr.index 30 (.agg #[b0,b1,b2]) (.int .i64 2)).run Tryz.prog w = .ok b2 w:=fun _ _ _  _ => by kernel_rfl
 rcases hm with rfl | rfl
 all_goals
  go_enter Tryz.func98,Tryz.ntmps98
  go_wp2
  refine wp_loop_rounds 4 ?_
  iterate 4 (rw [rounds_succ]; go_wp2_with (go_at_call 54; (with_reducible refine (HV.out _).mono ?_); rintro e w' ⟨rfl,rfl⟩))
  go_ret
  exact ⟨rfl,⟨[_,_,_],0⟩,rfl⟩
theorem tlTGroup0 {p:Prop} (h:p:=by
  go_enter Tryz.func91,Tryz.ntmps91
  go_wp2
  go_region
  all_goals go_wp2
  all_goals exact bodyPost_ret (v:=.tuple #[.agg #[.int .u16 (0),.int .u16 (0),.int .u16 (0),.int .u16 (0),.int .u16 (0),.int .u16 (0)],.agg #[.int .u16 (0),.int .u16 (0),.int .u16 (0),.int .u16 (0),.int .u16 (0)]]) (by simp [results,Tryz.results91,go_sem]) rfl ⟨rfl,⟨[_,_,_,_],1⟩,rfl⟩):p:=h
set_option maxHeartbeats 1000000 in
theorem begin_iso_true (x y z a o f bx byy bz ba bf:Int) (w:World) :
  Calls Tryz.prog 91 #[.bool true,.bool true,.agg #[.int .u16 (x),.int .u16 (y),.int .u16 (z),.int .u16 (a),.int .u16 (o),.int .u16 (f)],.agg #[.int .u16 (bx),.int .u16 (byy),.int .u16 (bz),.int .u16 (ba),.int .u16 (bf)]] w fun e w' => e = .returned (.tuple #[.agg #[.int .u16 (0),.int .u16 (0),.int .u16 (0),.int .u16 (0),.int .u16 (0),.int .u16 (0)],.agg #[.int .u16 (0),.int .u16 (0),.int .u16 (0),.int .u16 (0),.int .u16 (0)]]) ∧ ∃ p,w' = more w p:=by
 exact tlTGroup0
set_option maxHeartbeats 1000000 in
theorem begin_iso_false (x y z a o f bx byy bz ba bf:Int) (w:World) :
  Calls Tryz.prog 91 #[.bool true,.bool false,.agg #[.int .u16 (x),.int .u16 (y),.int .u16 (z),.int .u16 (a),.int .u16 (o),.int .u16 (f)],.agg #[.int .u16 (bx),.int .u16 (byy),.int .u16 (bz),.int .u16 (ba),.int .u16 (bf)]] w fun e w' => e = .returned (.tuple #[.agg #[.int .u16 (0),.int .u16 (0),.int .u16 (0),.int .u16 (0),.int .u16 (0),.int .u16 (0)],.agg #[.int .u16 (0),.int .u16 (0),.int .u16 (0),.int .u16 (0),.int .u16 (0)]]) ∧ ∃ p,w' = more w p:=by
 exact tlTGroup0
set_option maxHeartbeats 1000000 in
theorem begin_own (x y z a o f bx byy bz ba bf:Int) (w:World) :
  Calls Tryz.prog 91 #[.bool false,.bool false,.agg #[.int .u16 (x),.int .u16 (y),.int .u16 (z),.int .u16 (a),.int .u16 (o),.int .u16 (f)],.agg #[.int .u16 (bx),.int .u16 (byy),.int .u16 (bz),.int .u16 (ba),.int .u16 (bf)]] w fun e w' => e = .returned (.tuple #[.agg #[.int .u16 (x),.int .u16 (y),.int .u16 (z),.int .u16 (a),.int .u16 (0),.int .u16 (0)],.agg #[.int .u16 (x),.int .u16 (y),.int .u16 (z),.int .u16 (a),.int .u16 (a)]]) ∧ ∃ p,w' = more w p:=by
 go_enter Tryz.func91,Tryz.ntmps91
 go_wp2
 go_region
 all_goals go_wp2
 all_goals exact bodyPost_ret (v:=.tuple #[.agg #[.int .u16 (x),.int .u16 (y),.int .u16 (z),.int .u16 (a),.int .u16 (0),.int .u16 (0)],.agg #[.int .u16 (x),.int .u16 (y),.int .u16 (z),.int .u16 (a),.int .u16 (a)]]) (by simp [results,Tryz.results91,go_sem]) rfl ⟨rfl,⟨[_,_,_,_],1⟩,rfl⟩
set_option maxHeartbeats 1000000 in
theorem begin_kn (x y z a o f bx byy bz ba bf:Int) (w:World) :
  Calls Tryz.prog 91 #[.bool false,.bool true,.agg #[.int .u16 (x),.int .u16 (y),.int .u16 (z),.int .u16 (a),.int .u16 (o),.int .u16 (f)],.agg #[.int .u16 (bx),.int .u16 (byy),.int .u16 (bz),.int .u16 (ba),.int .u16 (bf)]] w fun e w' => e = .returned (.tuple #[.agg #[.int .u16 (bx),.int .u16 (byy),.int .u16 (bz),.int .u16 (ba),.int .u16 (0),.int .u16 (0)],.agg #[.int .u16 (bx),.int .u16 (byy),.int .u16 (bz),.int .u16 (ba),.int .u16 (bf)]]) ∧ ∃ p,w' = more w p:=by
 go_enter Tryz.func91,Tryz.ntmps91
 go_wp2
 go_region
 all_goals go_wp2
 all_goals exact bodyPost_ret (v:=.tuple #[.agg #[.int .u16 (bx),.int .u16 (byy),.int .u16 (bz),.int .u16 (ba),.int .u16 (0),.int .u16 (0)],.agg #[.int .u16 (bx),.int .u16 (byy),.int .u16 (bz),.int .u16 (ba),.int .u16 (bf)]]) (by simp [results,Tryz.results91,go_sem]) rfl ⟨rfl,⟨[_,_,_,_],1⟩,rfl⟩
set_option maxHeartbeats 4000000 in
theorem replace_walk {k m px pyy pz pa pf x y z a o f bx byy bz ba V0 V1 V2 A O Fs:Int} (hbnd:0 ≤ V0 ∧ V0 ≤ 65535)
  (h0:∀ w,Calls Tryz.prog 111 #[.int .i64 k,.int .u16 (m),.int .u16 (px),.int .u16 (pa),.int .u16 (pf),.int .u16 (x),.int .u16 (bx),.int .u16 (ba)] w fun e w' => e = .returned (.tuple #[.int .u16 V0,.bool true]) ∧ ∃ p,w' = more w p) (h1:∀ w,Calls Tryz.prog 111 #[.int .i64 k,.int .u16 (m),.int .u16 (pyy),.int .u16 (pa),.int .u16 (pf),.int .u16 (y),.int .u16 (byy),.int .u16 (ba)] w fun e w' => e = .returned (.tuple #[.int .u16 V1,.bool true]) ∧ ∃ p,w' = more w p) (h2:∀ w,Calls Tryz.prog 111 #[.int .i64 k,.int .u16 (m),.int .u16 (pz),.int .u16 (pa),.int .u16 (pf),.int .u16 (z),.int .u16 (bz),.int .u16 (ba)] w fun e w' => e = .returned (.tuple #[.int .u16 V2,.bool true]) ∧ ∃ p,w' = more w p)
  (ha:∀ w,Calls Tryz.prog 112 #[.int .u16 (m),.int .u16 (pa),.int .u16 (pf),.int .u16 (a),.int .u16 (ba)] w fun e w' => e = .returned (.tuple #[.int .u16 A,.bool true]) ∧ ∃ p,w' = more w p)
  (ho:∀ w,Calls Tryz.prog 113 #[.int .u16 (m),.int .u16 (pa),.int .u16 (pf),.int .u16 (o)] w fun e w' => e = .returned (.tuple #[.int .u16 O,.bool true]) ∧ ∃ p,w' = more w p)
  (hs:∀ w,Ruled w → Calls Tryz.prog 108 #[.int .i64 4,.int .u16 (pf),.int .u16 (f),.int .u16 (m)] w fun e w' => e = .returned (.int .u16 Fs) ∧ ∃ p,w' = more w p) (w:World) (hR:Ruled w) :
  Calls Tryz.prog 105 #[.int .i64 k,.int .u16 m,.agg #[.int .u16 (px),.int .u16 (pyy),.int .u16 (pz),.int .u16 (pa),.int .u16 (pf)],.agg #[.int .u16 (x),.int .u16 (y),.int .u16 (z),.int .u16 (a),.int .u16 (o),.int .u16 (f)],.agg #[.int .u16 (bx),.int .u16 (byy),.int .u16 (bz),.int .u16 (ba),.int .u16 (ba)]] w fun e w' => e = .returned (.tuple #[.agg #[.int .u16 (V0),.int .u16 (V1),.int .u16 (V2),.int .u16 (A),.int .u16 (O),.int .u16 (Fs)],.bool true]) ∧ ∃ p,w' = more w p:=by
 have HA:=hd_ @ha
 have HO:=hd_ @ho
 have HS:=hd_ @hs
 have HR:=hd_ hR
 clear ha ho hs hR hbnd
 have H0:=hd_ @h0
 clear h0
 have H1:=hd_ @h1
 clear h1
 have H2:=hd_ @h2
 clear h2
 have ix0:∀ (b0 b1 b2:Value) (w:World),(Instr.index 30 (.agg #[b0,b1,b2]) (.int .i64 0)).run Tryz.prog w = .ok b0 w:=fun _ _ _ _ => by kernel_rfl
 have ix1:∀ (b0 b1 b2:Value) (w:World),(Instr.index 30 (.agg #[b0,b1,b2]) (.int .i64 1)).run Tryz.prog w = .ok b1 w:=fun _ _ _ _ => by kernel_rfl
 have ix2:∀ (b0 b1 b2:Value) (w:World),(Instr.index 30 (.agg #[b0,b1,b2]) (.int .i64 2)).run Tryz.prog w = .ok b2 w:=fun _ _ _ _ => by kernel_rfl
 go_enter Tryz.func105,Tryz.ntmps105
 go_upto_region 2 with fail
 refine at_world (fun V => Ext w V ∧ V.heap[w.heap.size]? = some (.cells #[.int .u16 (px),.int .u16 (pyy),.int .u16 (pz),.int .u16 (pa),.int .u16 (pf)] 32) ∧ V.heap[w.heap.size + 1]? = some (.cells #[.int .u16 (x),.int .u16 (y),.int .u16 (z),.int .u16 (a),.int .u16 (o),.int .u16 (f)] 151) ∧ V.heap[w.heap.size + 1 + 1]? = some (.cells #[.int .u16 (bx),.int .u16 (byy),.int .u16 (bz),.int .u16 (ba),.int .u16 (ba)] 32) ∧ V.heap[w.heap.size + 1 + 1 + 1]? = some (.cells #[.int .u16 (0),.int .u16 (0),.int .u16 (0),.int .u16 (0),.int .u16 (0),.int .u16 (0)] 151) ∧ V.heap[w.heap.size + 1 + 1 + 1 + 1]? = some (.cells #[.int .u16 (x),.int .u16 (y),.int .u16 (z),.int .u16 (a),.int .u16 (o),.int .u16 (f)] 151)) ⟨⟨⟨[_,_,_,_,_],0⟩,rfl⟩,at_old (at_old (at_old (at_old (at_new (by simp))))),at_old (at_old (at_old (at_new (by simp)))),at_old (at_old (at_new (by simp))),at_old (at_new (by simp)),at_new (by simp)⟩ ?_
 rintro wc ⟨hE,ep,ec,eb,er,eu⟩
 have hmc:=more_cell
 have hmf:=more_frozen
 obtain ⟨cps,cp0,cp1,cp2,cp3,cp4⟩:=cells5_of ep
 obtain ⟨ccs,cc0,cc1,cc2,cc3,cc4,cc5⟩:=cells6_of ec
 obtain ⟨cbs,cb0,cb1,cb2,cb3,cb4⟩:=cells5_of eb
 obtain ⟨crs,cr0,cr1,cr2,cr3,cr4,cr5⟩:=cells6_of er
 obtain ⟨cus,cu0,cu1,cu2,cu3,cu4,cu5⟩:=cells6_of eu
 have fu0:=froz_cells (i:=0) eu
 have fu1:=froz_cells (i:=1) eu
 have fu2:=froz_cells (i:=2) eu
 have fu3:=froz_cells (i:=3) eu
 have fu4:=froz_cells (i:=4) eu
 have fu5:=froz_cells (i:=5) eu
 go_wp2_with fail
 refine wp_loop_rounds 4 ?_
 rw [rounds_succ]
 go_wp2_with fail
 refine region_more (by kernel_rfl) (by kernel_rfl) ?_
 repeat (go_big_quiet_step ((go_at_call 111; with_reducible exact calls_more (H0.out _))))
 refine wpQuiet_nil ?_
 rintro w1 ⟨p,rfl⟩
 go_wp2_with fail
 rw [rounds_succ]
 clear cps cp0 cp1 cp2 cp3 cp4 ccs cc0 cc1 cc2 cc3 cc4 cc5 cbs cb0 cb1 cb2 cb3 cb4 crs cr0 cr1 cr2 cr3 cr4 cr5 cus cu0 cu1 cu2 cu3 cu4 cu5 fu0 fu1 fu2 fu3 fu4 fu5
 refine at_world (fun V => Ext w V ∧ V.heap[w.heap.size]? = some (.cells #[.int .u16 (px),.int .u16 (pyy),.int .u16 (pz),.int .u16 (pa),.int .u16 (pf)] 32) ∧ V.heap[w.heap.size + 1]? = some (.cells #[.int .u16 (x),.int .u16 (y),.int .u16 (z),.int .u16 (a),.int .u16 (o),.int .u16 (f)] 151) ∧ V.heap[w.heap.size + 1 + 1]? = some (.cells #[.int .u16 (bx),.int .u16 (byy),.int .u16 (bz),.int .u16 (ba),.int .u16 (ba)] 32) ∧ V.heap[w.heap.size + 1 + 1 + 1]? = some (.cells #[.int .u16 (0),.int .u16 (0),.int .u16 (0),.int .u16 (0),.int .u16 (0),.int .u16 (0)] 151) ∧ V.heap[w.heap.size + 1 + 1 + 1 + 1]? = some (.cells #[.int .u16 (V0),.int .u16 (y),.int .u16 (z),.int .u16 (a),.int .u16 (o),.int .u16 (f)] 151)) ⟨Ext.setCell (hE.mored _) (by omega) _,(heap_set_other _ (by omega) (at_more ep)),(heap_set_other _ (by omega) (at_more ec)),(heap_set_other _ (by omega) (at_more eb)),(heap_set_other _ (by omega) (at_more er)),(heap_set _ (at_more eu))⟩ ?_
 clear hE ep ec eb er eu
 rintro wc ⟨hE,ep,ec,eb,er,eu⟩
 obtain ⟨cps,cp0,cp1,cp2,cp3,cp4⟩:=cells5_of ep
 obtain ⟨ccs,cc0,cc1,cc2,cc3,cc4,cc5⟩:=cells6_of ec
 obtain ⟨cbs,cb0,cb1,cb2,cb3,cb4⟩:=cells5_of eb
 obtain ⟨crs,cr0,cr1,cr2,cr3,cr4,cr5⟩:=cells6_of er
 obtain ⟨cus,cu0,cu1,cu2,cu3,cu4,cu5⟩:=cells6_of eu
 have fu0:=froz_cells (i:=0) eu
 have fu1:=froz_cells (i:=1) eu
 have fu2:=froz_cells (i:=2) eu
 have fu3:=froz_cells (i:=3) eu
 have fu4:=froz_cells (i:=4) eu
 have fu5:=froz_cells (i:=5) eu
 go_wp2_with fail
 refine region_more (by kernel_rfl) (by kernel_rfl) ?_
 repeat (go_big_quiet_step ((go_at_call 111; with_reducible exact calls_more (H1.out _))))
 refine wpQuiet_nil ?_
 rintro w1 ⟨p,rfl⟩
 go_wp2_with fail
 rw [rounds_succ]
 clear cps cp0 cp1 cp2 cp3 cp4 ccs cc0 cc1 cc2 cc3 cc4 cc5 cbs cb0 cb1 cb2 cb3 cb4 crs cr0 cr1 cr2 cr3 cr4 cr5 cus cu0 cu1 cu2 cu3 cu4 cu5 fu0 fu1 fu2 fu3 fu4 fu5
 refine at_world (fun V => Ext w V ∧ V.heap[w.heap.size]? = some (.cells #[.int .u16 (px),.int .u16 (pyy),.int .u16 (pz),.int .u16 (pa),.int .u16 (pf)] 32) ∧ V.heap[w.heap.size + 1]? = some (.cells #[.int .u16 (x),.int .u16 (y),.int .u16 (z),.int .u16 (a),.int .u16 (o),.int .u16 (f)] 151) ∧ V.heap[w.heap.size + 1 + 1]? = some (.cells #[.int .u16 (bx),.int .u16 (byy),.int .u16 (bz),.int .u16 (ba),.int .u16 (ba)] 32) ∧ V.heap[w.heap.size + 1 + 1 + 1]? = some (.cells #[.int .u16 (0),.int .u16 (0),.int .u16 (0),.int .u16 (0),.int .u16 (0),.int .u16 (0)] 151) ∧ V.heap[w.heap.size + 1 + 1 + 1 + 1]? = some (.cells #[.int .u16 (V0),.int .u16 (V1),.int .u16 (z),.int .u16 (a),.int .u16 (o),.int .u16 (f)] 151)) ⟨Ext.setCell (hE.mored _) (by omega) _,(heap_set_other _ (by omega) (at_more ep)),(heap_set_other _ (by omega) (at_more ec)),(heap_set_other _ (by omega) (at_more eb)),(heap_set_other _ (by omega) (at_more er)),(heap_set _ (at_more eu))⟩ ?_
 clear hE ep ec eb er eu
 rintro wc ⟨hE,ep,ec,eb,er,eu⟩
 obtain ⟨cps,cp0,cp1,cp2,cp3,cp4⟩:=cells5_of ep
 obtain ⟨ccs,cc0,cc1,cc2,cc3,cc4,cc5⟩:=cells6_of ec
 obtain ⟨cbs,cb0,cb1,cb2,cb3,cb4⟩:=cells5_of eb
 obtain ⟨crs,cr0,cr1,cr2,cr3,cr4,cr5⟩:=cells6_of er
 obtain ⟨cus,cu0,cu1,cu2,cu3,cu4,cu5⟩:=cells6_of eu
 have fu0:=froz_cells (i:=0) eu
 have fu1:=froz_cells (i:=1) eu
 have fu2:=froz_cells (i:=2) eu
 have fu3:=froz_cells (i:=3) eu
 have fu4:=froz_cells (i:=4) eu
 have fu5:=froz_cells (i:=5) eu
 go_wp2_with fail
 refine region_more (by kernel_rfl) (by kernel_rfl) ?_
 repeat (go_big_quiet_step ((go_at_call 111; with_reducible exact calls_more (H2.out _))))
 refine wpQuiet_nil ?_
 rintro w1 ⟨p,rfl⟩
 go_wp2_with fail
 rw [rounds_succ]
 clear cps cp0 cp1 cp2 cp3 cp4 ccs cc0 cc1 cc2 cc3 cc4 cc5 cbs cb0 cb1 cb2 cb3 cb4 crs cr0 cr1 cr2 cr3 cr4 cr5 cus cu0 cu1 cu2 cu3 cu4 cu5 fu0 fu1 fu2 fu3 fu4 fu5
 refine at_world (fun V => Ext w V ∧ V.heap[w.heap.size]? = some (.cells #[.int .u16 (px),.int .u16 (pyy),.int .u16 (pz),.int .u16 (pa),.int .u16 (pf)] 32) ∧ V.heap[w.heap.size + 1]? = some (.cells #[.int .u16 (x),.int .u16 (y),.int .u16 (z),.int .u16 (a),.int .u16 (o),.int .u16 (f)] 151) ∧ V.heap[w.heap.size + 1 + 1]? = some (.cells #[.int .u16 (bx),.int .u16 (byy),.int .u16 (bz),.int .u16 (ba),.int .u16 (ba)] 32) ∧ V.heap[w.heap.size + 1 + 1 + 1]? = some (.cells #[.int .u16 (0),.int .u16 (0),.int .u16 (0),.int .u16 (0),.int .u16 (0),.int .u16 (0)] 151) ∧ V.heap[w.heap.size + 1 + 1 + 1 + 1]? = some (.cells #[.int .u16 (V0),.int .u16 (V1),.int .u16 (V2),.int .u16 (a),.int .u16 (o),.int .u16 (f)] 151)) ⟨Ext.setCell (hE.mored _) (by omega) _,(heap_set_other _ (by omega) (at_more ep)),(heap_set_other _ (by omega) (at_more ec)),(heap_set_other _ (by omega) (at_more eb)),(heap_set_other _ (by omega) (at_more er)),(heap_set _ (at_more eu))⟩ ?_
 clear hE ep ec eb er eu
 rintro wc ⟨hE,ep,ec,eb,er,eu⟩
 obtain ⟨cps,cp0,cp1,cp2,cp3,cp4⟩:=cells5_of ep
 obtain ⟨ccs,cc0,cc1,cc2,cc3,cc4,cc5⟩:=cells6_of ec
 obtain ⟨cbs,cb0,cb1,cb2,cb3,cb4⟩:=cells5_of eb
 obtain ⟨crs,cr0,cr1,cr2,cr3,cr4,cr5⟩:=cells6_of er
 obtain ⟨cus,cu0,cu1,cu2,cu3,cu4,cu5⟩:=cells6_of eu
 have fu0:=froz_cells (i:=0) eu
 have fu1:=froz_cells (i:=1) eu
 have fu2:=froz_cells (i:=2) eu
 have fu3:=froz_cells (i:=3) eu
 have fu4:=froz_cells (i:=4) eu
 have fu5:=froz_cells (i:=5) eu
 go_upto_region 11 with (go_at_call 112; first | ((with_reducible refine (HA.out _).mono ?_); rintro e w' ⟨rfl,q,rfl⟩))
 clear cps cp0 cp1 cp2 cp3 cp4 ccs cc0 cc1 cc2 cc3 cc4 cc5 cbs cb0 cb1 cb2 cb3 cb4 crs cr0 cr1 cr2 cr3 cr4 cr5 cus cu0 cu1 cu2 cu3 cu4 cu5 fu0 fu1 fu2 fu3 fu4 fu5
 refine at_world (fun V => Ext w V ∧ V.heap[w.heap.size]? = some (.cells #[.int .u16 (px),.int .u16 (pyy),.int .u16 (pz),.int .u16 (pa),.int .u16 (pf)] 32) ∧ V.heap[w.heap.size + 1]? = some (.cells #[.int .u16 (x),.int .u16 (y),.int .u16 (z),.int .u16 (a),.int .u16 (o),.int .u16 (f)] 151) ∧ V.heap[w.heap.size + 1 + 1]? = some (.cells #[.int .u16 (bx),.int .u16 (byy),.int .u16 (bz),.int .u16 (ba),.int .u16 (ba)] 32) ∧ V.heap[w.heap.size + 1 + 1 + 1]? = some (.cells #[.int .u16 (0),.int .u16 (0),.int .u16 (0),.int .u16 (0),.int .u16 (0),.int .u16 (0)] 151) ∧ V.heap[w.heap.size + 1 + 1 + 1 + 1]? = some (.cells #[.int .u16 (V0),.int .u16 (V1),.int .u16 (V2),.int .u16 (A),.int .u16 (o),.int .u16 (f)] 151)) ⟨Ext.setCell (hE.mored _) (by omega) _,(heap_set_other _ (by omega) (at_more ep)),(heap_set_other _ (by omega) (at_more ec)),(heap_set_other _ (by omega) (at_more eb)),(heap_set_other _ (by omega) (at_more er)),(heap_set _ (at_more eu))⟩ ?_
 clear hE ep ec eb er eu
 rintro wc ⟨hE,ep,ec,eb,er,eu⟩
 obtain ⟨cps,cp0,cp1,cp2,cp3,cp4⟩:=cells5_of ep
 obtain ⟨ccs,cc0,cc1,cc2,cc3,cc4,cc5⟩:=cells6_of ec
 obtain ⟨cbs,cb0,cb1,cb2,cb3,cb4⟩:=cells5_of eb
 obtain ⟨crs,cr0,cr1,cr2,cr3,cr4,cr5⟩:=cells6_of er
 obtain ⟨cus,cu0,cu1,cu2,cu3,cu4,cu5⟩:=cells6_of eu
 have fu0:=froz_cells (i:=0) eu
 have fu1:=froz_cells (i:=1) eu
 have fu2:=froz_cells (i:=2) eu
 have fu3:=froz_cells (i:=3) eu
 have fu4:=froz_cells (i:=4) eu
 have fu5:=froz_cells (i:=5) eu
 go_upto_region 12 with (go_at_call 113; first | ((with_reducible refine (HO.out _).mono ?_); rintro e w' ⟨rfl,q,rfl⟩))
 clear cps cp0 cp1 cp2 cp3 cp4 ccs cc0 cc1 cc2 cc3 cc4 cc5 cbs cb0 cb1 cb2 cb3 cb4 crs cr0 cr1 cr2 cr3 cr4 cr5 cus cu0 cu1 cu2 cu3 cu4 cu5 fu0 fu1 fu2 fu3 fu4 fu5
 refine at_world (fun V => Ext w V ∧ V.heap[w.heap.size]? = some (.cells #[.int .u16 (px),.int .u16 (pyy),.int .u16 (pz),.int .u16 (pa),.int .u16 (pf)] 32) ∧ V.heap[w.heap.size + 1]? = some (.cells #[.int .u16 (x),.int .u16 (y),.int .u16 (z),.int .u16 (a),.int .u16 (o),.int .u16 (f)] 151) ∧ V.heap[w.heap.size + 1 + 1]? = some (.cells #[.int .u16 (bx),.int .u16 (byy),.int .u16 (bz),.int .u16 (ba),.int .u16 (ba)] 32) ∧ V.heap[w.heap.size + 1 + 1 + 1]? = some (.cells #[.int .u16 (0),.int .u16 (0),.int .u16 (0),.int .u16 (0),.int .u16 (0),.int .u16 (0)] 151) ∧ V.heap[w.heap.size + 1 + 1 + 1 + 1]? = some (.cells #[.int .u16 (V0),.int .u16 (V1),.int .u16 (V2),.int .u16 (A),.int .u16 (O),.int .u16 (f)] 151)) ⟨Ext.setCell (hE.mored _) (by omega) _,(heap_set_other _ (by omega) (at_more ep)),(heap_set_other _ (by omega) (at_more ec)),(heap_set_other _ (by omega) (at_more eb)),(heap_set_other _ (by omega) (at_more er)),(heap_set _ (at_more eu))⟩ ?_
 clear hE ep ec eb er eu
 rintro wc ⟨hE,ep,ec,eb,er,eu⟩
 obtain ⟨cps,cp0,cp1,cp2,cp3,cp4⟩:=cells5_of ep
 obtain ⟨ccs,cc0,cc1,cc2,cc3,cc4,cc5⟩:=cells6_of ec
 obtain ⟨cbs,cb0,cb1,cb2,cb3,cb4⟩:=cells5_of eb
 obtain ⟨crs,cr0,cr1,cr2,cr3,cr4,cr5⟩:=cells6_of er
 obtain ⟨cus,cu0,cu1,cu2,cu3,cu4,cu5⟩:=cells6_of eu
 have fu0:=froz_cells (i:=0) eu
 have fu1:=froz_cells (i:=1) eu
 have fu2:=froz_cells (i:=2) eu
 have fu3:=froz_cells (i:=3) eu
 have fu4:=froz_cells (i:=4) eu
 have fu5:=froz_cells (i:=5) eu
 have HR2:=hd_ (ruled_ext HR.out hE)
 go_upto_region 13 with (go_at_call 108; first | ((with_reducible refine (HS.out _ HR2.out).mono ?_); rintro e w' ⟨rfl,q,rfl⟩))
 clear cps cp0 cp1 cp2 cp3 cp4 ccs cc0 cc1 cc2 cc3 cc4 cc5 cbs cb0 cb1 cb2 cb3 cb4 crs cr0 cr1 cr2 cr3 cr4 cr5 cus cu0 cu1 cu2 cu3 cu4 cu5 fu0 fu1 fu2 fu3 fu4 fu5
 refine at_world (fun V => Ext w V ∧ V.heap[w.heap.size]? = some (.cells #[.int .u16 (px),.int .u16 (pyy),.int .u16 (pz),.int .u16 (pa),.int .u16 (pf)] 32) ∧ V.heap[w.heap.size + 1]? = some (.cells #[.int .u16 (x),.int .u16 (y),.int .u16 (z),.int .u16 (a),.int .u16 (o),.int .u16 (f)] 151) ∧ V.heap[w.heap.size + 1 + 1]? = some (.cells #[.int .u16 (bx),.int .u16 (byy),.int .u16 (bz),.int .u16 (ba),.int .u16 (ba)] 32) ∧ V.heap[w.heap.size + 1 + 1 + 1]? = some (.cells #[.int .u16 (0),.int .u16 (0),.int .u16 (0),.int .u16 (0),.int .u16 (0),.int .u16 (0)] 151) ∧ V.heap[w.heap.size + 1 + 1 + 1 + 1]? = some (.cells #[.int .u16 (V0),.int .u16 (V1),.int .u16 (V2),.int .u16 (A),.int .u16 (O),.int .u16 (Fs)] 151)) ⟨Ext.setCell (hE.mored _) (by omega) _,(heap_set_other _ (by omega) (at_more ep)),(heap_set_other _ (by omega) (at_more ec)),(heap_set_other _ (by omega) (at_more eb)),(heap_set_other _ (by omega) (at_more er)),(heap_set _ (at_more eu))⟩ ?_
 clear hE ep ec eb er eu
 rintro wc ⟨hE,ep,ec,eb,er,eu⟩
 obtain ⟨cps,cp0,cp1,cp2,cp3,cp4⟩:=cells5_of ep
 obtain ⟨ccs,cc0,cc1,cc2,cc3,cc4,cc5⟩:=cells6_of ec
 obtain ⟨cbs,cb0,cb1,cb2,cb3,cb4⟩:=cells5_of eb
 obtain ⟨crs,cr0,cr1,cr2,cr3,cr4,cr5⟩:=cells6_of er
 obtain ⟨cus,cu0,cu1,cu2,cu3,cu4,cu5⟩:=cells6_of eu
 have fu0:=froz_cells (i:=0) eu
 have fu1:=froz_cells (i:=1) eu
 have fu2:=froz_cells (i:=2) eu
 have fu3:=froz_cells (i:=3) eu
 have fu4:=froz_cells (i:=4) eu
 have fu5:=froz_cells (i:=5) eu
 have fr0:=froz_cells (i:=0) er
 have fr1:=froz_cells (i:=1) er
 have fr2:=froz_cells (i:=2) er
 have fr3:=froz_cells (i:=3) er
 have fr4:=froz_cells (i:=4) er
 have fr5:=froz_cells (i:=5) er
 have HE:=hd_ hE
 clear hE ep ec eb er eu
 go_wp2_with fail
 exact bodyPost_ret (v:=.tuple #[.agg #[.int .u16 (V0),.int .u16 (V1),.int .u16 (V2),.int .u16 (A),.int .u16 (O),.int .u16 (Fs)],.bool true]) (by simp [results,Tryz.results105,go_sem, *]) rfl ⟨rfl,Ext.setCell (Ext.setCell (Ext.setCell (Ext.setCell (Ext.setCell (Ext.setCell (HE.out) (by omega) _) (by omega) _) (by omega) _) (by omega) _) (by omega) _) (by omega) _⟩
set_option maxHeartbeats 4000000 in
theorem stepK_walk {k m px pyy pz pa pf x y z a o f bx byy bz ba X Y Zq A O Fs:Int}
  (hv:∀ w,Calls Tryz.prog 98 #[.agg #[.int .u16 (x),.int .u16 (y),.int .u16 (z),.int .u16 (a),.int .u16 (o),.int .u16 (f)],.agg #[.int .u16 (bx),.int .u16 (byy),.int .u16 (bz),.int .u16 (ba),.int .u16 (ba)],.int .u16 m] w fun e w' => e = .returned (.bool true) ∧ ∃ p,w' = more w p)
  (hp:∀ w,Calls Tryz.prog 54 #[.agg #[.int .u16 (px),.int .u16 (pyy),.int .u16 (pz),.int .u16 (pa),.int .u16 (pf)],.int .u16 m] w fun e w' => e = .returned (.bool true) ∧ ∃ p,w' = more w p)
  (hr:∀ w,Ruled w → Calls Tryz.prog 105 #[.int .i64 k,.int .u16 m,.agg #[.int .u16 (px),.int .u16 (pyy),.int .u16 (pz),.int .u16 (pa),.int .u16 (pf)],.agg #[.int .u16 (x),.int .u16 (y),.int .u16 (z),.int .u16 (a),.int .u16 (o),.int .u16 (f)],.agg #[.int .u16 (bx),.int .u16 (byy),.int .u16 (bz),.int .u16 (ba),.int .u16 (ba)]] w fun e w' => e = .returned (.tuple #[.agg #[.int .u16 (X),.int .u16 (Y),.int .u16 (Zq),.int .u16 (A),.int .u16 (O),.int .u16 (Fs)],.bool true]) ∧ ∃ p,w' = more w p) (w:World) (hR:Ruled w) :
  Calls Tryz.prog 101 #[.bool true,.int .i64 4,.int .i64 k,.int .u16 m,.agg #[.int .u16 (px),.int .u16 (pyy),.int .u16 (pz),.int .u16 (pa),.int .u16 (pf)],.agg #[.int .u16 (x),.int .u16 (y),.int .u16 (z),.int .u16 (a),.int .u16 (o),.int .u16 (f)],.agg #[.int .u16 (bx),.int .u16 (byy),.int .u16 (bz),.int .u16 (ba),.int .u16 (ba)]] w fun e w' => e = .returned (.tuple #[.agg #[.int .u16 (X),.int .u16 (Y),.int .u16 (Zq),.int .u16 (A),.int .u16 (O),.int .u16 (Fs)],.bool true]) ∧ ∃ p,w' = more w p:=by
 have HV:=hd_ @hv
 have HP:=hd_ @hp
 have HQ:=hd_ @hr
 have HR:=hd_ hR
 clear hv hp hr hR
 go_enter Tryz.func101,Tryz.ntmps101
 go_upto_region 1 with fail
 refine at_world (fun V => Ext w V ∧ V.heap[w.heap.size]? = some (.cells #[.int .u16 (px),.int .u16 (pyy),.int .u16 (pz),.int .u16 (pa),.int .u16 (pf)] 32) ∧ V.heap[w.heap.size + 1]? = some (.cells #[.int .u16 (x),.int .u16 (y),.int .u16 (z),.int .u16 (a),.int .u16 (o),.int .u16 (f)] 151) ∧ V.heap[w.heap.size + 1 + 1]? = some (.cells #[.int .u16 (bx),.int .u16 (byy),.int .u16 (bz),.int .u16 (ba),.int .u16 (ba)] 32) ∧ V.heap[w.heap.size + 1 + 1 + 1]? = some (.cells #[.int .u16 (0),.int .u16 (0),.int .u16 (0),.int .u16 (0),.int .u16 (0),.int .u16 (0)] 151)) ⟨⟨⟨[_,_,_,_],0⟩,rfl⟩,at_old (at_old (at_old (at_new (by simp)))),at_old (at_old (at_new (by simp))),at_old (at_new (by simp)),at_new (by simp)⟩ ?_
 rintro wc ⟨hE,ep,ec,eb,er⟩
 have hmc:=more_cell
 have hmf:=more_frozen
 obtain ⟨cps,cp0,cp1,cp2,cp3,cp4⟩:=cells5_of ep
 obtain ⟨ccs,cc0,cc1,cc2,cc3,cc4,cc5⟩:=cells6_of ec
 obtain ⟨cbs,cb0,cb1,cb2,cb3,cb4⟩:=cells5_of eb
 obtain ⟨crs,cr0,cr1,cr2,cr3,cr4,cr5⟩:=cells6_of er
 go_upto_region 4 with (first | (go_at_call 98; first | ((with_reducible refine (HV.out _).mono ?_); rintro e w' ⟨rfl,q,rfl⟩)) | (go_at_call 54; first | ((with_reducible refine (HP.out _).mono ?_); rintro e w' ⟨rfl,q,rfl⟩)))
 clear cps cp0 cp1 cp2 cp3 cp4 ccs cc0 cc1 cc2 cc3 cc4 cc5 cbs cb0 cb1 cb2 cb3 cb4 crs cr0 cr1 cr2 cr3 cr4 cr5
 refine at_world (fun V => Ext w V ∧ V.heap[w.heap.size]? = some (.cells #[.int .u16 (px),.int .u16 (pyy),.int .u16 (pz),.int .u16 (pa),.int .u16 (pf)] 32) ∧ V.heap[w.heap.size + 1]? = some (.cells #[.int .u16 (x),.int .u16 (y),.int .u16 (z),.int .u16 (a),.int .u16 (o),.int .u16 (f)] 151) ∧ V.heap[w.heap.size + 1 + 1]? = some (.cells #[.int .u16 (bx),.int .u16 (byy),.int .u16 (bz),.int .u16 (ba),.int .u16 (ba)] 32) ∧ V.heap[w.heap.size + 1 + 1 + 1]? = some (.cells #[.int .u16 (0),.int .u16 (0),.int .u16 (0),.int .u16 (0),.int .u16 (0),.int .u16 (0)] 151)) ⟨(hE.mored _).mored _,at_more (at_more ep),at_more (at_more ec),at_more (at_more eb),at_more (at_more er)⟩ ?_
 clear hE ep ec eb er
 rintro wc ⟨hE,ep,ec,eb,er⟩
 obtain ⟨cps,cp0,cp1,cp2,cp3,cp4⟩:=cells5_of ep
 obtain ⟨ccs,cc0,cc1,cc2,cc3,cc4,cc5⟩:=cells6_of ec
 obtain ⟨cbs,cb0,cb1,cb2,cb3,cb4⟩:=cells5_of eb
 obtain ⟨crs,cr0,cr1,cr2,cr3,cr4,cr5⟩:=cells6_of er
 have fr0:=froz_cells (i:=0) er
 have fr1:=froz_cells (i:=1) er
 have fr2:=froz_cells (i:=2) er
 have fr3:=froz_cells (i:=3) er
 have fr4:=froz_cells (i:=4) er
 have fr5:=froz_cells (i:=5) er
 have HR2:=hd_ (ruled_ext HR.out hE)
 have HE:=hd_ hE
 clear hE ep ec eb er
 go_wp2_with (go_at_call 105; first | ((with_reducible refine (HQ.out _ HR2.out).mono ?_); rintro e w' ⟨rfl,q,rfl⟩))
 exact bodyPost_ret (v:=.tuple #[.agg #[.int .u16 (X),.int .u16 (Y),.int .u16 (Zq),.int .u16 (A),.int .u16 (O),.int .u16 (Fs)],.bool true]) (by simp [results,Tryz.results101,go_sem, *]) rfl ⟨rfl,Ext.setCell (Ext.setCell (Ext.setCell (Ext.setCell (Ext.setCell (Ext.setCell (HE.out.mored _) (by omega) _) (by omega) _) (by omega) _) (by omega) _) (by omega) _) (by omega) _⟩
set_option maxHeartbeats 8000000 in
theorem step_walk {op k m px pyy pz pa pf x y z a o f bx byy bz ba V0 V1 V2 A O Fs:Int}
  (hv:∀ w,Calls Tryz.prog 98 #[.agg #[.int .u16 (x),.int .u16 (y),.int .u16 (z),.int .u16 (a),.int .u16 (o),.int .u16 (f)],.agg #[.int .u16 (bx),.int .u16 (byy),.int .u16 (bz),.int .u16 (ba),.int .u16 (ba)],.int .u16 m] w fun e w' => e = .returned (.bool true) ∧ ∃ p,w' = more w p)
  (hp:∀ w,Calls Tryz.prog 54 #[.agg #[.int .u16 (px),.int .u16 (pyy),.int .u16 (pz),.int .u16 (pa),.int .u16 (pf)],.int .u16 m] w fun e w' => e = .returned (.bool true) ∧ ∃ p,w' = more w p)
  (h0:∀ w,Ruled w → Calls Tryz.prog 106 #[.int .i64 op,.int .i64 k,.int .u16 (m),.int .u16 (px),.int .u16 (pa),.int .u16 (x),.int .u16 (a)] w fun e w' => e = .returned (.tuple #[.int .u16 V0,.bool true]) ∧ ∃ p,w' = more w p) (h1:∀ w,Ruled w → Calls Tryz.prog 106 #[.int .i64 op,.int .i64 k,.int .u16 (m),.int .u16 (pyy),.int .u16 (pa),.int .u16 (y),.int .u16 (a)] w fun e w' => e = .returned (.tuple #[.int .u16 V1,.bool true]) ∧ ∃ p,w' = more w p) (h2:∀ w,Ruled w → Calls Tryz.prog 106 #[.int .i64 op,.int .i64 k,.int .u16 (m),.int .u16 (pz),.int .u16 (pa),.int .u16 (z),.int .u16 (a)] w fun e w' => e = .returned (.tuple #[.int .u16 V2,.bool true]) ∧ ∃ p,w' = more w p)
  (ha:∀ w,Ruled w → Calls Tryz.prog 107 #[.int .i64 op,.int .u16 (pa),.int .u16 (a),.int .u16 (m)] w fun e w' => e = .returned (.int .u16 A) ∧ ∃ p,w' = more w p)
  (ho:∀ w,Ruled w → Calls Tryz.prog 107 #[.int .i64 op,.int .u16 (pa),.int .u16 (o),.int .u16 (m)] w fun e w' => e = .returned (.int .u16 O) ∧ ∃ p,w' = more w p)
  (hs:∀ w,Ruled w → Calls Tryz.prog 108 #[.int .i64 op,.int .u16 (pf),.int .u16 (f),.int .u16 (m)] w fun e w' => e = .returned (.int .u16 Fs) ∧ ∃ p,w' = more w p) (w:World) (hR:Ruled w) :
  Calls Tryz.prog 101 #[.bool false,.int .i64 op,.int .i64 k,.int .u16 m,.agg #[.int .u16 (px),.int .u16 (pyy),.int .u16 (pz),.int .u16 (pa),.int .u16 (pf)],.agg #[.int .u16 (x),.int .u16 (y),.int .u16 (z),.int .u16 (a),.int .u16 (o),.int .u16 (f)],.agg #[.int .u16 (bx),.int .u16 (byy),.int .u16 (bz),.int .u16 (ba),.int .u16 (ba)]] w fun e w' => e = .returned (.tuple #[.agg #[.int .u16 (V0),.int .u16 (V1),.int .u16 (V2),.int .u16 (A),.int .u16 (O),.int .u16 (Fs)],.bool true]) ∧ ∃ p,w' = more w p:=by
 have HV:=hd_ @hv
 have HP:=hd_ @hp
 have HA:=hd_ @ha
 have HO:=hd_ @ho
 have HS:=hd_ @hs
 have HR:=hd_ hR
 clear hv hp ha ho hs hR
 have H0:=hd_ @h0
 clear h0
 have H1:=hd_ @h1
 clear h1
 have H2:=hd_ @h2
 clear h2
 have ix0:∀ (b0 b1 b2:Value) (w:World),(Instr.index 30 (.agg #[b0,b1,b2]) (.int .i64 0)).run Tryz.prog w = .ok b0 w:=fun _ _ _ _ => by kernel_rfl
 have ix1:∀ (b0 b1 b2:Value) (w:World),(Instr.index 30 (.agg #[b0,b1,b2]) (.int .i64 1)).run Tryz.prog w = .ok b1 w:=fun _ _ _ _ => by kernel_rfl
 have ix2:∀ (b0 b1 b2:Value) (w:World),(Instr.index 30 (.agg #[b0,b1,b2]) (.int .i64 2)).run Tryz.prog w = .ok b2 w:=fun _ _ _ _ => by kernel_rfl
 go_enter Tryz.func101,Tryz.ntmps101
 go_upto_region 1 with fail
 refine at_world (fun V => Ext w V ∧ V.heap[w.heap.size]? = some (.cells #[.int .u16 (px),.int .u16 (pyy),.int .u16 (pz),.int .u16 (pa),.int .u16 (pf)] 32) ∧ V.heap[w.heap.size + 1]? = some (.cells #[.int .u16 (x),.int .u16 (y),.int .u16 (z),.int .u16 (a),.int .u16 (o),.int .u16 (f)] 151) ∧ V.heap[w.heap.size + 1 + 1]? = some (.cells #[.int .u16 (bx),.int .u16 (byy),.int .u16 (bz),.int .u16 (ba),.int .u16 (ba)] 32) ∧ V.heap[w.heap.size + 1 + 1 + 1]? = some (.cells #[.int .u16 (0),.int .u16 (0),.int .u16 (0),.int .u16 (0),.int .u16 (0),.int .u16 (0)] 151)) ⟨⟨⟨[_,_,_,_],0⟩,rfl⟩,at_old (at_old (at_old (at_new (by simp)))),at_old (at_old (at_new (by simp))),at_old (at_new (by simp)),at_new (by simp)⟩ ?_
 rintro wc ⟨hE,ep,ec,eb,er⟩
 have hmc:=more_cell
 have hmf:=more_frozen
 obtain ⟨cps,cp0,cp1,cp2,cp3,cp4⟩:=cells5_of ep
 obtain ⟨ccs,cc0,cc1,cc2,cc3,cc4,cc5⟩:=cells6_of ec
 obtain ⟨cbs,cb0,cb1,cb2,cb3,cb4⟩:=cells5_of eb
 obtain ⟨crs,cr0,cr1,cr2,cr3,cr4,cr5⟩:=cells6_of er
 go_upto_region 5 with (first | (go_at_call 98; first | ((with_reducible refine (HV.out _).mono ?_); rintro e w' ⟨rfl,q,rfl⟩)) | (go_at_call 54; first | ((with_reducible refine (HP.out _).mono ?_); rintro e w' ⟨rfl,q,rfl⟩)))
 clear cps cp0 cp1 cp2 cp3 cp4 ccs cc0 cc1 cc2 cc3 cc4 cc5 cbs cb0 cb1 cb2 cb3 cb4 crs cr0 cr1 cr2 cr3 cr4 cr5
 refine at_world (fun V => Ext w V ∧ V.heap[w.heap.size]? = some (.cells #[.int .u16 (px),.int .u16 (pyy),.int .u16 (pz),.int .u16 (pa),.int .u16 (pf)] 32) ∧ V.heap[w.heap.size + 1]? = some (.cells #[.int .u16 (x),.int .u16 (y),.int .u16 (z),.int .u16 (a),.int .u16 (o),.int .u16 (f)] 151) ∧ V.heap[w.heap.size + 1 + 1]? = some (.cells #[.int .u16 (bx),.int .u16 (byy),.int .u16 (bz),.int .u16 (ba),.int .u16 (ba)] 32) ∧ V.heap[w.heap.size + 1 + 1 + 1]? = some (.cells #[.int .u16 (0),.int .u16 (0),.int .u16 (0),.int .u16 (0),.int .u16 (0),.int .u16 (0)] 151)) ⟨(hE.mored _).mored _,at_more (at_more ep),at_more (at_more ec),at_more (at_more eb),at_more (at_more er)⟩ ?_
 clear hE ep ec eb er
 rintro wc ⟨hE,ep,ec,eb,er⟩
 obtain ⟨cps,cp0,cp1,cp2,cp3,cp4⟩:=cells5_of ep
 obtain ⟨ccs,cc0,cc1,cc2,cc3,cc4,cc5⟩:=cells6_of ec
 obtain ⟨cbs,cb0,cb1,cb2,cb3,cb4⟩:=cells5_of eb
 obtain ⟨crs,cr0,cr1,cr2,cr3,cr4,cr5⟩:=cells6_of er
 go_upto_region 6 with fail
 obtain ⟨gu,hgu⟩:∃ g,wc.heap.size = g:=⟨_,rfl⟩
 have lu:w.heap.size + 1 + 1 + 1 < gu:=by omega
 have eu:(wc.alloc (.cells #[.int .u16 (x),.int .u16 (y),.int .u16 (z),.int .u16 (a),.int .u16 (o),.int .u16 (f)] 151)).heap[gu]? = some (.cells #[.int .u16 (x),.int .u16 (y),.int .u16 (z),.int .u16 (a),.int .u16 (o),.int .u16 (f)] 151):=at_new hgu.symm
 rw [hgu]
 clear cps cp0 cp1 cp2 cp3 cp4 ccs cc0 cc1 cc2 cc3 cc4 cc5 cbs cb0 cb1 cb2 cb3 cb4 crs cr0 cr1 cr2 cr3 cr4 cr5
 refine at_world (fun V => Ext w V ∧ V.heap[w.heap.size]? = some (.cells #[.int .u16 (px),.int .u16 (pyy),.int .u16 (pz),.int .u16 (pa),.int .u16 (pf)] 32) ∧ V.heap[w.heap.size + 1]? = some (.cells #[.int .u16 (x),.int .u16 (y),.int .u16 (z),.int .u16 (a),.int .u16 (o),.int .u16 (f)] 151) ∧ V.heap[w.heap.size + 1 + 1]? = some (.cells #[.int .u16 (bx),.int .u16 (byy),.int .u16 (bz),.int .u16 (ba),.int .u16 (ba)] 32) ∧ V.heap[w.heap.size + 1 + 1 + 1]? = some (.cells #[.int .u16 (0),.int .u16 (0),.int .u16 (0),.int .u16 (0),.int .u16 (0),.int .u16 (0)] 151) ∧ V.heap[gu]? = some (.cells #[.int .u16 (x),.int .u16 (y),.int .u16 (z),.int .u16 (a),.int .u16 (o),.int .u16 (f)] 151)) ⟨hE.alloc _,at_old ep,at_old ec,at_old eb,at_old er,eu⟩ ?_
 clear hE ep ec eb er eu hgu
 rintro wc ⟨hE,ep,ec,eb,er,eu⟩
 obtain ⟨cps,cp0,cp1,cp2,cp3,cp4⟩:=cells5_of ep
 obtain ⟨ccs,cc0,cc1,cc2,cc3,cc4,cc5⟩:=cells6_of ec
 obtain ⟨cbs,cb0,cb1,cb2,cb3,cb4⟩:=cells5_of eb
 obtain ⟨crs,cr0,cr1,cr2,cr3,cr4,cr5⟩:=cells6_of er
 obtain ⟨cus,cu0,cu1,cu2,cu3,cu4,cu5⟩:=cells6_of eu
 have fu0:=froz_cells (i:=0) eu
 have fu1:=froz_cells (i:=1) eu
 have fu2:=froz_cells (i:=2) eu
 have fu3:=froz_cells (i:=3) eu
 have fu4:=froz_cells (i:=4) eu
 have fu5:=froz_cells (i:=5) eu
 go_wp2_with fail
 refine wp_loop_rounds 4 ?_
 rw [rounds_succ]
 have HR2:=hd_ (ruled_ext HR.out hE)
 go_wp2_with fail
 refine region_more (by kernel_rfl) (by kernel_rfl) ?_
 repeat (go_big_quiet_step ((go_at_call 106; with_reducible exact calls_more (H0.out _ (ruled_more HR2.out _)))))
 refine wpQuiet_nil ?_
 rintro w1 ⟨p,rfl⟩
 go_wp2_with fail
 rw [rounds_succ]
 clear HR2
 clear cps cp0 cp1 cp2 cp3 cp4 ccs cc0 cc1 cc2 cc3 cc4 cc5 cbs cb0 cb1 cb2 cb3 cb4 crs cr0 cr1 cr2 cr3 cr4 cr5 cus cu0 cu1 cu2 cu3 cu4 cu5 fu0 fu1 fu2 fu3 fu4 fu5
 refine at_world (fun V => Ext w V ∧ V.heap[w.heap.size]? = some (.cells #[.int .u16 (px),.int .u16 (pyy),.int .u16 (pz),.int .u16 (pa),.int .u16 (pf)] 32) ∧ V.heap[w.heap.size + 1]? = some (.cells #[.int .u16 (x),.int .u16 (y),.int .u16 (z),.int .u16 (a),.int .u16 (o),.int .u16 (f)] 151) ∧ V.heap[w.heap.size + 1 + 1]? = some (.cells #[.int .u16 (bx),.int .u16 (byy),.int .u16 (bz),.int .u16 (ba),.int .u16 (ba)] 32) ∧ V.heap[w.heap.size + 1 + 1 + 1]? = some (.cells #[.int .u16 (0),.int .u16 (0),.int .u16 (0),.int .u16 (0),.int .u16 (0),.int .u16 (0)] 151) ∧ V.heap[gu]? = some (.cells #[.int .u16 (V0),.int .u16 (y),.int .u16 (z),.int .u16 (a),.int .u16 (o),.int .u16 (f)] 151)) ⟨Ext.setCell (hE.mored _) (by omega) _,(heap_set_other _ (by omega) (at_more ep)),(heap_set_other _ (by omega) (at_more ec)),(heap_set_other _ (by omega) (at_more eb)),(heap_set_other _ (by omega) (at_more er)),(heap_set _ (at_more eu))⟩ ?_
 clear hE ep ec eb er eu
 rintro wc ⟨hE,ep,ec,eb,er,eu⟩
 obtain ⟨cps,cp0,cp1,cp2,cp3,cp4⟩:=cells5_of ep
 obtain ⟨ccs,cc0,cc1,cc2,cc3,cc4,cc5⟩:=cells6_of ec
 obtain ⟨cbs,cb0,cb1,cb2,cb3,cb4⟩:=cells5_of eb
 obtain ⟨crs,cr0,cr1,cr2,cr3,cr4,cr5⟩:=cells6_of er
 obtain ⟨cus,cu0,cu1,cu2,cu3,cu4,cu5⟩:=cells6_of eu
 have fu0:=froz_cells (i:=0) eu
 have fu1:=froz_cells (i:=1) eu
 have fu2:=froz_cells (i:=2) eu
 have fu3:=froz_cells (i:=3) eu
 have fu4:=froz_cells (i:=4) eu
 have fu5:=froz_cells (i:=5) eu
 have HR2:=hd_ (ruled_ext HR.out hE)
 go_wp2_with fail
 refine region_more (by kernel_rfl) (by kernel_rfl) ?_
 repeat (go_big_quiet_step ((go_at_call 106; with_reducible exact calls_more (H1.out _ (ruled_more HR2.out _)))))
 refine wpQuiet_nil ?_
 rintro w1 ⟨p,rfl⟩
 go_wp2_with fail
 rw [rounds_succ]
 clear HR2
 clear cps cp0 cp1 cp2 cp3 cp4 ccs cc0 cc1 cc2 cc3 cc4 cc5 cbs cb0 cb1 cb2 cb3 cb4 crs cr0 cr1 cr2 cr3 cr4 cr5 cus cu0 cu1 cu2 cu3 cu4 cu5 fu0 fu1 fu2 fu3 fu4 fu5
 refine at_world (fun V => Ext w V ∧ V.heap[w.heap.size]? = some (.cells #[.int .u16 (px),.int .u16 (pyy),.int .u16 (pz),.int .u16 (pa),.int .u16 (pf)] 32) ∧ V.heap[w.heap.size + 1]? = some (.cells #[.int .u16 (x),.int .u16 (y),.int .u16 (z),.int .u16 (a),.int .u16 (o),.int .u16 (f)] 151) ∧ V.heap[w.heap.size + 1 + 1]? = some (.cells #[.int .u16 (bx),.int .u16 (byy),.int .u16 (bz),.int .u16 (ba),.int .u16 (ba)] 32) ∧ V.heap[w.heap.size + 1 + 1 + 1]? = some (.cells #[.int .u16 (0),.int .u16 (0),.int .u16 (0),.int .u16 (0),.int .u16 (0),.int .u16 (0)] 151) ∧ V.heap[gu]? = some (.cells #[.int .u16 (V0),.int .u16 (V1),.int .u16 (z),.int .u16 (a),.int .u16 (o),.int .u16 (f)] 151)) ⟨Ext.setCell (hE.mored _) (by omega) _,(heap_set_other _ (by omega) (at_more ep)),(heap_set_other _ (by omega) (at_more ec)),(heap_set_other _ (by omega) (at_more eb)),(heap_set_other _ (by omega) (at_more er)),(heap_set _ (at_more eu))⟩ ?_
 clear hE ep ec eb er eu
 rintro wc ⟨hE,ep,ec,eb,er,eu⟩
 obtain ⟨cps,cp0,cp1,cp2,cp3,cp4⟩:=cells5_of ep
 obtain ⟨ccs,cc0,cc1,cc2,cc3,cc4,cc5⟩:=cells6_of ec
 obtain ⟨cbs,cb0,cb1,cb2,cb3,cb4⟩:=cells5_of eb
 obtain ⟨crs,cr0,cr1,cr2,cr3,cr4,cr5⟩:=cells6_of er
 obtain ⟨cus,cu0,cu1,cu2,cu3,cu4,cu5⟩:=cells6_of eu
 have fu0:=froz_cells (i:=0) eu
 have fu1:=froz_cells (i:=1) eu
 have fu2:=froz_cells (i:=2) eu
 have fu3:=froz_cells (i:=3) eu
 have fu4:=froz_cells (i:=4) eu
 have fu5:=froz_cells (i:=5) eu
 have HR2:=hd_ (ruled_ext HR.out hE)
 go_wp2_with fail
 refine region_more (by kernel_rfl) (by kernel_rfl) ?_
 repeat (go_big_quiet_step ((go_at_call 106; with_reducible exact calls_more (H2.out _ (ruled_more HR2.out _)))))
 refine wpQuiet_nil ?_
 rintro w1 ⟨p,rfl⟩
 go_wp2_with fail
 rw [rounds_succ]
 clear HR2
 clear cps cp0 cp1 cp2 cp3 cp4 ccs cc0 cc1 cc2 cc3 cc4 cc5 cbs cb0 cb1 cb2 cb3 cb4 crs cr0 cr1 cr2 cr3 cr4 cr5 cus cu0 cu1 cu2 cu3 cu4 cu5 fu0 fu1 fu2 fu3 fu4 fu5
 refine at_world (fun V => Ext w V ∧ V.heap[w.heap.size]? = some (.cells #[.int .u16 (px),.int .u16 (pyy),.int .u16 (pz),.int .u16 (pa),.int .u16 (pf)] 32) ∧ V.heap[w.heap.size + 1]? = some (.cells #[.int .u16 (x),.int .u16 (y),.int .u16 (z),.int .u16 (a),.int .u16 (o),.int .u16 (f)] 151) ∧ V.heap[w.heap.size + 1 + 1]? = some (.cells #[.int .u16 (bx),.int .u16 (byy),.int .u16 (bz),.int .u16 (ba),.int .u16 (ba)] 32) ∧ V.heap[w.heap.size + 1 + 1 + 1]? = some (.cells #[.int .u16 (0),.int .u16 (0),.int .u16 (0),.int .u16 (0),.int .u16 (0),.int .u16 (0)] 151) ∧ V.heap[gu]? = some (.cells #[.int .u16 (V0),.int .u16 (V1),.int .u16 (V2),.int .u16 (a),.int .u16 (o),.int .u16 (f)] 151)) ⟨Ext.setCell (hE.mored _) (by omega) _,(heap_set_other _ (by omega) (at_more ep)),(heap_set_other _ (by omega) (at_more ec)),(heap_set_other _ (by omega) (at_more eb)),(heap_set_other _ (by omega) (at_more er)),(heap_set _ (at_more eu))⟩ ?_
 clear hE ep ec eb er eu
 rintro wc ⟨hE,ep,ec,eb,er,eu⟩
 obtain ⟨cps,cp0,cp1,cp2,cp3,cp4⟩:=cells5_of ep
 obtain ⟨ccs,cc0,cc1,cc2,cc3,cc4,cc5⟩:=cells6_of ec
 obtain ⟨cbs,cb0,cb1,cb2,cb3,cb4⟩:=cells5_of eb
 obtain ⟨crs,cr0,cr1,cr2,cr3,cr4,cr5⟩:=cells6_of er
 obtain ⟨cus,cu0,cu1,cu2,cu3,cu4,cu5⟩:=cells6_of eu
 have fu0:=froz_cells (i:=0) eu
 have fu1:=froz_cells (i:=1) eu
 have fu2:=froz_cells (i:=2) eu
 have fu3:=froz_cells (i:=3) eu
 have fu4:=froz_cells (i:=4) eu
 have fu5:=froz_cells (i:=5) eu
 have HR2:=hd_ (ruled_ext HR.out hE)
 go_upto_region 15 with (go_at_call 107; first | ((with_reducible refine (HA.out _ HR2.out).mono ?_); rintro e w' ⟨rfl,q,rfl⟩))
 clear HR2
 clear cps cp0 cp1 cp2 cp3 cp4 ccs cc0 cc1 cc2 cc3 cc4 cc5 cbs cb0 cb1 cb2 cb3 cb4 crs cr0 cr1 cr2 cr3 cr4 cr5 cus cu0 cu1 cu2 cu3 cu4 cu5 fu0 fu1 fu2 fu3 fu4 fu5
 refine at_world (fun V => Ext w V ∧ V.heap[w.heap.size]? = some (.cells #[.int .u16 (px),.int .u16 (pyy),.int .u16 (pz),.int .u16 (pa),.int .u16 (pf)] 32) ∧ V.heap[w.heap.size + 1]? = some (.cells #[.int .u16 (x),.int .u16 (y),.int .u16 (z),.int .u16 (a),.int .u16 (o),.int .u16 (f)] 151) ∧ V.heap[w.heap.size + 1 + 1]? = some (.cells #[.int .u16 (bx),.int .u16 (byy),.int .u16 (bz),.int .u16 (ba),.int .u16 (ba)] 32) ∧ V.heap[w.heap.size + 1 + 1 + 1]? = some (.cells #[.int .u16 (0),.int .u16 (0),.int .u16 (0),.int .u16 (0),.int .u16 (0),.int .u16 (0)] 151) ∧ V.heap[gu]? = some (.cells #[.int .u16 (V0),.int .u16 (V1),.int .u16 (V2),.int .u16 (A),.int .u16 (o),.int .u16 (f)] 151)) ⟨Ext.setCell (hE.mored _) (by omega) _,(heap_set_other _ (by omega) (at_more ep)),(heap_set_other _ (by omega) (at_more ec)),(heap_set_other _ (by omega) (at_more eb)),(heap_set_other _ (by omega) (at_more er)),(heap_set _ (at_more eu))⟩ ?_
 clear hE ep ec eb er eu
 rintro wc ⟨hE,ep,ec,eb,er,eu⟩
 obtain ⟨cps,cp0,cp1,cp2,cp3,cp4⟩:=cells5_of ep
 obtain ⟨ccs,cc0,cc1,cc2,cc3,cc4,cc5⟩:=cells6_of ec
 obtain ⟨cbs,cb0,cb1,cb2,cb3,cb4⟩:=cells5_of eb
 obtain ⟨crs,cr0,cr1,cr2,cr3,cr4,cr5⟩:=cells6_of er
 obtain ⟨cus,cu0,cu1,cu2,cu3,cu4,cu5⟩:=cells6_of eu
 have fu0:=froz_cells (i:=0) eu
 have fu1:=froz_cells (i:=1) eu
 have fu2:=froz_cells (i:=2) eu
 have fu3:=froz_cells (i:=3) eu
 have fu4:=froz_cells (i:=4) eu
 have fu5:=froz_cells (i:=5) eu
 have HR2:=hd_ (ruled_ext HR.out hE)
 go_upto_region 16 with (go_at_call 107; first | ((with_reducible refine (HO.out _ HR2.out).mono ?_); rintro e w' ⟨rfl,q,rfl⟩))
 clear HR2
 clear cps cp0 cp1 cp2 cp3 cp4 ccs cc0 cc1 cc2 cc3 cc4 cc5 cbs cb0 cb1 cb2 cb3 cb4 crs cr0 cr1 cr2 cr3 cr4 cr5 cus cu0 cu1 cu2 cu3 cu4 cu5 fu0 fu1 fu2 fu3 fu4 fu5
 refine at_world (fun V => Ext w V ∧ V.heap[w.heap.size]? = some (.cells #[.int .u16 (px),.int .u16 (pyy),.int .u16 (pz),.int .u16 (pa),.int .u16 (pf)] 32) ∧ V.heap[w.heap.size + 1]? = some (.cells #[.int .u16 (x),.int .u16 (y),.int .u16 (z),.int .u16 (a),.int .u16 (o),.int .u16 (f)] 151) ∧ V.heap[w.heap.size + 1 + 1]? = some (.cells #[.int .u16 (bx),.int .u16 (byy),.int .u16 (bz),.int .u16 (ba),.int .u16 (ba)] 32) ∧ V.heap[w.heap.size + 1 + 1 + 1]? = some (.cells #[.int .u16 (0),.int .u16 (0),.int .u16 (0),.int .u16 (0),.int .u16 (0),.int .u16 (0)] 151) ∧ V.heap[gu]? = some (.cells #[.int .u16 (V0),.int .u16 (V1),.int .u16 (V2),.int .u16 (A),.int .u16 (O),.int .u16 (f)] 151)) ⟨Ext.setCell (hE.mored _) (by omega) _,(heap_set_other _ (by omega) (at_more ep)),(heap_set_other _ (by omega) (at_more ec)),(heap_set_other _ (by omega) (at_more eb)),(heap_set_other _ (by omega) (at_more er)),(heap_set _ (at_more eu))⟩ ?_
 clear hE ep ec eb er eu
 rintro wc ⟨hE,ep,ec,eb,er,eu⟩
 obtain ⟨cps,cp0,cp1,cp2,cp3,cp4⟩:=cells5_of ep
 obtain ⟨ccs,cc0,cc1,cc2,cc3,cc4,cc5⟩:=cells6_of ec
 obtain ⟨cbs,cb0,cb1,cb2,cb3,cb4⟩:=cells5_of eb
 obtain ⟨crs,cr0,cr1,cr2,cr3,cr4,cr5⟩:=cells6_of er
 obtain ⟨cus,cu0,cu1,cu2,cu3,cu4,cu5⟩:=cells6_of eu
 have fu0:=froz_cells (i:=0) eu
 have fu1:=froz_cells (i:=1) eu
 have fu2:=froz_cells (i:=2) eu
 have fu3:=froz_cells (i:=3) eu
 have fu4:=froz_cells (i:=4) eu
 have fu5:=froz_cells (i:=5) eu
 have HR2:=hd_ (ruled_ext HR.out hE)
 go_upto_region 17 with (go_at_call 108; first | ((with_reducible refine (HS.out _ HR2.out).mono ?_); rintro e w' ⟨rfl,q,rfl⟩))
 clear HR2
 clear cps cp0 cp1 cp2 cp3 cp4 ccs cc0 cc1 cc2 cc3 cc4 cc5 cbs cb0 cb1 cb2 cb3 cb4 crs cr0 cr1 cr2 cr3 cr4 cr5 cus cu0 cu1 cu2 cu3 cu4 cu5 fu0 fu1 fu2 fu3 fu4 fu5
 refine at_world (fun V => Ext w V ∧ V.heap[w.heap.size]? = some (.cells #[.int .u16 (px),.int .u16 (pyy),.int .u16 (pz),.int .u16 (pa),.int .u16 (pf)] 32) ∧ V.heap[w.heap.size + 1]? = some (.cells #[.int .u16 (x),.int .u16 (y),.int .u16 (z),.int .u16 (a),.int .u16 (o),.int .u16 (f)] 151) ∧ V.heap[w.heap.size + 1 + 1]? = some (.cells #[.int .u16 (bx),.int .u16 (byy),.int .u16 (bz),.int .u16 (ba),.int .u16 (ba)] 32) ∧ V.heap[w.heap.size + 1 + 1 + 1]? = some (.cells #[.int .u16 (0),.int .u16 (0),.int .u16 (0),.int .u16 (0),.int .u16 (0),.int .u16 (0)] 151) ∧ V.heap[gu]? = some (.cells #[.int .u16 (V0),.int .u16 (V1),.int .u16 (V2),.int .u16 (A),.int .u16 (O),.int .u16 (Fs)] 151)) ⟨Ext.setCell (hE.mored _) (by omega) _,(heap_set_other _ (by omega) (at_more ep)),(heap_set_other _ (by omega) (at_more ec)),(heap_set_other _ (by omega) (at_more eb)),(heap_set_other _ (by omega) (at_more er)),(heap_set _ (at_more eu))⟩ ?_
 clear hE ep ec eb er eu
 rintro wc ⟨hE,ep,ec,eb,er,eu⟩
 obtain ⟨cps,cp0,cp1,cp2,cp3,cp4⟩:=cells5_of ep
 obtain ⟨ccs,cc0,cc1,cc2,cc3,cc4,cc5⟩:=cells6_of ec
 obtain ⟨cbs,cb0,cb1,cb2,cb3,cb4⟩:=cells5_of eb
 obtain ⟨crs,cr0,cr1,cr2,cr3,cr4,cr5⟩:=cells6_of er
 obtain ⟨cus,cu0,cu1,cu2,cu3,cu4,cu5⟩:=cells6_of eu
 have fu0:=froz_cells (i:=0) eu
 have fu1:=froz_cells (i:=1) eu
 have fu2:=froz_cells (i:=2) eu
 have fu3:=froz_cells (i:=3) eu
 have fu4:=froz_cells (i:=4) eu
 have fu5:=froz_cells (i:=5) eu
 have fr0:=froz_cells (i:=0) er
 have fr1:=froz_cells (i:=1) er
 have fr2:=froz_cells (i:=2) er
 have fr3:=froz_cells (i:=3) er
 have fr4:=froz_cells (i:=4) er
 have fr5:=froz_cells (i:=5) er
 have HE:=hd_ hE
 clear hE ep ec eb er eu
 go_wp2_with fail
 exact bodyPost_ret (v:=.tuple #[.agg #[.int .u16 (V0),.int .u16 (V1),.int .u16 (V2),.int .u16 (A),.int .u16 (O),.int .u16 (Fs)],.bool true]) (by simp [results,Tryz.results101,go_sem, *]) rfl ⟨rfl,Ext.setCell (Ext.setCell (Ext.setCell (Ext.setCell (Ext.setCell (Ext.setCell (HE.out) (by omega) _) (by omega) _) (by omega) _) (by omega) _) (by omega) _) (by omega) _⟩
def rmI (c k o m:Int):Int:=if m * c ≤ (m - o) * k then 0 else min (halfI (m * c - (m - o) * k) m) o
theorem rm_bounds {c k o m:Int} (o0:0 ≤ o) (m0:0 ≤ m):0 ≤ rmI c k o m ∧ rmI c k o m ≤ o:=by
 unfold rmI
 split
 ·omega
 ·have:=half_nonneg (m * c - (m - o) * k) m (by omega) m0
  omega
set_option maxHeartbeats 1000000 in
theorem removed_call {c k o m:Int} (c0:0 ≤ c) (c1:c ≤ 65535) (k0:0 ≤ k) (k1:k ≤ 65535) (o0:0 ≤ o) (om:o ≤ m) (m0:1 ≤ m) (m1:m ≤ 65535) (w:World) :
  Calls Tryz.prog 99 #[.int .u16 (c),.int .u16 (k),.int .u16 (o),.int .u16 (m)] w fun e w' => e = .returned (.int .u16 (rmI c k o m)) ∧ ∃ n,w' = w.drewN n:=by
 obtain ⟨a0,a1⟩:=mul_bound m c 65535 65535 (by omega) c0 m1 c1
 obtain ⟨b0,b1⟩:=mul_bound (m - o) k 65535 65535 (by omega) k0 (by omega) k1
 have hle:halfI (m * c - (m - o) * k) m ≤ c:=half_mul_le _ _ _ m0 (by rw [Int.mul_comm c m]; omega)
 unfold rmI
 obtain ⟨A,hA⟩:∃ A,m * c = A:=⟨_,rfl⟩
 obtain ⟨B,hB⟩:∃ B,(m - o) * k = B:=⟨_,rfl⟩
 rw [hA] at a0 a1 hle ⊢
 rw [hB] at b0 b1 hle ⊢
 have w1:=wr hA (by omega) (by omega)
 have w2:=wr hB (by omega) (by omega)
 clear hA hB
 by_cases h:A ≤ B
 ·rw [if_pos h]
  clear hle
  go_enter Tryz.func99,Tryz.ntmps99
  go_wp2
  go_ret
  exact ⟨rfl,0,rfl⟩
 ·rw [if_neg h]
  have h0:=half_nonneg (A - B) m (by omega) (by omega)
  have hh:=fun w => half_call (A - B) m w (by omega) (by omega) (by omega) (by omega)
  generalize halfI (A - B) m = V at *
  have HH:=hd_ @hh
  have h':B < A:=by omega
  clear hh h
  go_enter Tryz.func99,Tryz.ntmps99
  go_wp2_with (go_at_call 103; (with_reducible refine (HH.out _).mono ?_); rintro e w' ⟨rfl,n,rfl⟩)
  go_ret
  exact ⟨rfl,_,rfl⟩
set_option maxHeartbeats 4000000 in
theorem result_walk {m x y z a o f bx byy bz ba V0 V1 V2:Int}
  (hv:∀ w,Calls Tryz.prog 98 #[.agg #[.int .u16 (x),.int .u16 (y),.int .u16 (z),.int .u16 (a),.int .u16 (o),.int .u16 (f)],.agg #[.int .u16 (bx),.int .u16 (byy),.int .u16 (bz),.int .u16 (ba),.int .u16 (ba)],.int .u16 m] w fun e w' => e = .returned (.bool true) ∧ ∃ p,w' = more w p)
  (h0:∀ w,Calls Tryz.prog 99 #[.int .u16 (x),.int .u16 (bx),.int .u16 (o),.int .u16 (m)] w fun e w' => e = .returned (.int .u16 V0) ∧ ∃ n,w' = w.drewN n) (h1:∀ w,Calls Tryz.prog 99 #[.int .u16 (y),.int .u16 (byy),.int .u16 (o),.int .u16 (m)] w fun e w' => e = .returned (.int .u16 V1) ∧ ∃ n,w' = w.drewN n) (h2:∀ w,Calls Tryz.prog 99 #[.int .u16 (z),.int .u16 (bz),.int .u16 (o),.int .u16 (m)] w fun e w' => e = .returned (.int .u16 V2) ∧ ∃ n,w' = w.drewN n) (w:World) :
  Calls Tryz.prog 87 #[.agg #[.int .u16 (x),.int .u16 (y),.int .u16 (z),.int .u16 (a),.int .u16 (o),.int .u16 (f)],.agg #[.int .u16 (bx),.int .u16 (byy),.int .u16 (bz),.int .u16 (ba),.int .u16 (ba)],.int .u16 m] w fun e w' => e = .returned (.tuple #[.agg #[.int .u16 (V0),.int .u16 (V1),.int .u16 (V2),.int .u16 (o),.int .u16 (f)],.bool true]) ∧ ∃ p,w' = more w p:=by
 have HV:=hd_ @hv
 clear hv
 have H0:=hd_ @h0
 clear h0
 have H1:=hd_ @h1
 clear h1
 have H2:=hd_ @h2
 clear h2
 have ix0:∀ (b0 b1 b2:Value) (w:World),(Instr.index 30 (.agg #[b0,b1,b2]) (.int .i64 0)).run Tryz.prog w = .ok b0 w:=fun _ _ _ _ => by kernel_rfl
 have ix1:∀ (b0 b1 b2:Value) (w:World),(Instr.index 30 (.agg #[b0,b1,b2]) (.int .i64 1)).run Tryz.prog w = .ok b1 w:=fun _ _ _ _ => by kernel_rfl
 have ix2:∀ (b0 b1 b2:Value) (w:World),(Instr.index 30 (.agg #[b0,b1,b2]) (.int .i64 2)).run Tryz.prog w = .ok b2 w:=fun _ _ _ _ => by kernel_rfl
 go_enter Tryz.func87,Tryz.ntmps87
 go_upto_region 1 with fail
 refine at_world (fun V => Ext w V ∧ V.heap[w.heap.size]? = some (.cells #[.int .u16 (x),.int .u16 (y),.int .u16 (z),.int .u16 (a),.int .u16 (o),.int .u16 (f)] 151) ∧ V.heap[w.heap.size + 1]? = some (.cells #[.int .u16 (bx),.int .u16 (byy),.int .u16 (bz),.int .u16 (ba),.int .u16 (ba)] 32) ∧ V.heap[w.heap.size + 1 + 1]? = some (.cells #[.int .u16 (0),.int .u16 (0),.int .u16 (0),.int .u16 (0),.int .u16 (0)] 32)) ⟨⟨⟨[_,_,_],0⟩,rfl⟩,at_old (at_old (at_new (by simp))),at_old (at_new (by simp)),at_new (by simp)⟩ ?_
 rintro wc ⟨hE,ec,eb,er⟩
 have hmc:=more_cell
 have hmf:=more_frozen
 obtain ⟨ccs,cc0,cc1,cc2,cc3,cc4,cc5⟩:=cells6_of ec
 obtain ⟨cbs,cb0,cb1,cb2,cb3,cb4⟩:=cells5_of eb
 obtain ⟨crs,cr0,cr1,cr2,cr3,cr4⟩:=cells5_of er
 go_upto_region 3 with (go_at_call 98; first | ((with_reducible refine (HV.out _).mono ?_); rintro e w' ⟨rfl,q,rfl⟩))
 clear ccs cc0 cc1 cc2 cc3 cc4 cc5 cbs cb0 cb1 cb2 cb3 cb4 crs cr0 cr1 cr2 cr3 cr4
 refine at_world (fun V => Ext w V ∧ V.heap[w.heap.size]? = some (.cells #[.int .u16 (x),.int .u16 (y),.int .u16 (z),.int .u16 (a),.int .u16 (o),.int .u16 (f)] 151) ∧ V.heap[w.heap.size + 1]? = some (.cells #[.int .u16 (bx),.int .u16 (byy),.int .u16 (bz),.int .u16 (ba),.int .u16 (ba)] 32) ∧ V.heap[w.heap.size + 1 + 1]? = some (.cells #[.int .u16 (0),.int .u16 (0),.int .u16 (0),.int .u16 (0),.int .u16 (0)] 32)) ⟨hE.mored _,(at_more ec),(at_more eb),(at_more er)⟩ ?_
 clear hE ec eb er
 rintro wc ⟨hE,ec,eb,er⟩
 obtain ⟨ccs,cc0,cc1,cc2,cc3,cc4,cc5⟩:=cells6_of ec
 obtain ⟨cbs,cb0,cb1,cb2,cb3,cb4⟩:=cells5_of eb
 obtain ⟨crs,cr0,cr1,cr2,cr3,cr4⟩:=cells5_of er
 go_upto_region 4 with fail
 obtain ⟨gu,hgu⟩:∃ g,wc.heap.size = g:=⟨_,rfl⟩
 have lu:w.heap.size + 1 + 1 < gu:=by omega
 have eu:(wc.alloc (.cells #[.int .u16 (0),.int .u16 (0),.int .u16 (0),.int .u16 (o),.int .u16 (f)] 32)).heap[gu]? = some (.cells #[.int .u16 (0),.int .u16 (0),.int .u16 (0),.int .u16 (o),.int .u16 (f)] 32):=at_new hgu.symm
 rw [hgu]
 clear ccs cc0 cc1 cc2 cc3 cc4 cc5 cbs cb0 cb1 cb2 cb3 cb4 crs cr0 cr1 cr2 cr3 cr4
 refine at_world (fun V => Ext w V ∧ V.heap[w.heap.size]? = some (.cells #[.int .u16 (x),.int .u16 (y),.int .u16 (z),.int .u16 (a),.int .u16 (o),.int .u16 (f)] 151) ∧ V.heap[w.heap.size + 1]? = some (.cells #[.int .u16 (bx),.int .u16 (byy),.int .u16 (bz),.int .u16 (ba),.int .u16 (ba)] 32) ∧ V.heap[w.heap.size + 1 + 1]? = some (.cells #[.int .u16 (0),.int .u16 (0),.int .u16 (0),.int .u16 (0),.int .u16 (0)] 32) ∧ V.heap[gu]? = some (.cells #[.int .u16 (0),.int .u16 (0),.int .u16 (0),.int .u16 (o),.int .u16 (f)] 32)) ⟨hE.alloc _,at_old ec,at_old eb,at_old er,eu⟩ ?_
 clear hE ec eb er eu hgu
 rintro wc ⟨hE,ec,eb,er,eu⟩
 obtain ⟨ccs,cc0,cc1,cc2,cc3,cc4,cc5⟩:=cells6_of ec
 obtain ⟨cbs,cb0,cb1,cb2,cb3,cb4⟩:=cells5_of eb
 obtain ⟨crs,cr0,cr1,cr2,cr3,cr4⟩:=cells5_of er
 obtain ⟨cus,cu0,cu1,cu2,cu3,cu4⟩:=cells5_of eu
 have fu0:=froz_cells (i:=0) eu
 have fu1:=froz_cells (i:=1) eu
 have fu2:=froz_cells (i:=2) eu
 have fu3:=froz_cells (i:=3) eu
 have fu4:=froz_cells (i:=4) eu
 go_wp2_with fail
 refine wp_loop_rounds 4 ?_
 rw [rounds_succ]
 go_wp2_with fail
 refine region_tail 12 (by kernel_rfl) (by kernel_rfl) ?_
 simp only [List.take_succ_cons,List.take_zero,List.drop_succ_cons,List.drop_zero]
 repeat (go_big_quiet_step ((go_at_call 99; with_reducible exact calls_more_drewN (H0.out _))))
 refine wpQuiet_nil ?_
 rintro w1 ⟨p,rfl⟩
 go_wp2_with fail
 rw [rounds_succ]
 clear ccs cc0 cc1 cc2 cc3 cc4 cc5 cbs cb0 cb1 cb2 cb3 cb4 crs cr0 cr1 cr2 cr3 cr4 cus cu0 cu1 cu2 cu3 cu4 fu0 fu1 fu2 fu3 fu4
 refine at_world (fun V => Ext w V ∧ V.heap[w.heap.size]? = some (.cells #[.int .u16 (x),.int .u16 (y),.int .u16 (z),.int .u16 (a),.int .u16 (o),.int .u16 (f)] 151) ∧ V.heap[w.heap.size + 1]? = some (.cells #[.int .u16 (bx),.int .u16 (byy),.int .u16 (bz),.int .u16 (ba),.int .u16 (ba)] 32) ∧ V.heap[w.heap.size + 1 + 1]? = some (.cells #[.int .u16 (0),.int .u16 (0),.int .u16 (0),.int .u16 (0),.int .u16 (0)] 32) ∧ V.heap[gu]? = some (.cells #[.int .u16 (V0),.int .u16 (0),.int .u16 (0),.int .u16 (o),.int .u16 (f)] 32)) ⟨Ext.setCell (hE.mored _) (by omega) _,(heap_set_other _ (by omega) (at_more ec)),(heap_set_other _ (by omega) (at_more eb)),(heap_set_other _ (by omega) (at_more er)),(heap_set _ (at_more eu))⟩ ?_
 clear hE ec eb er eu
 rintro wc ⟨hE,ec,eb,er,eu⟩
 obtain ⟨ccs,cc0,cc1,cc2,cc3,cc4,cc5⟩:=cells6_of ec
 obtain ⟨cbs,cb0,cb1,cb2,cb3,cb4⟩:=cells5_of eb
 obtain ⟨crs,cr0,cr1,cr2,cr3,cr4⟩:=cells5_of er
 obtain ⟨cus,cu0,cu1,cu2,cu3,cu4⟩:=cells5_of eu
 have fu0:=froz_cells (i:=0) eu
 have fu1:=froz_cells (i:=1) eu
 have fu2:=froz_cells (i:=2) eu
 have fu3:=froz_cells (i:=3) eu
 have fu4:=froz_cells (i:=4) eu
 go_wp2_with fail
 refine region_tail 12 (by kernel_rfl) (by kernel_rfl) ?_
 simp only [List.take_succ_cons,List.take_zero,List.drop_succ_cons,List.drop_zero]
 repeat (go_big_quiet_step ((go_at_call 99; with_reducible exact calls_more_drewN (H1.out _))))
 refine wpQuiet_nil ?_
 rintro w1 ⟨p,rfl⟩
 go_wp2_with fail
 rw [rounds_succ]
 clear ccs cc0 cc1 cc2 cc3 cc4 cc5 cbs cb0 cb1 cb2 cb3 cb4 crs cr0 cr1 cr2 cr3 cr4 cus cu0 cu1 cu2 cu3 cu4 fu0 fu1 fu2 fu3 fu4
 refine at_world (fun V => Ext w V ∧ V.heap[w.heap.size]? = some (.cells #[.int .u16 (x),.int .u16 (y),.int .u16 (z),.int .u16 (a),.int .u16 (o),.int .u16 (f)] 151) ∧ V.heap[w.heap.size + 1]? = some (.cells #[.int .u16 (bx),.int .u16 (byy),.int .u16 (bz),.int .u16 (ba),.int .u16 (ba)] 32) ∧ V.heap[w.heap.size + 1 + 1]? = some (.cells #[.int .u16 (0),.int .u16 (0),.int .u16 (0),.int .u16 (0),.int .u16 (0)] 32) ∧ V.heap[gu]? = some (.cells #[.int .u16 (V0),.int .u16 (V1),.int .u16 (0),.int .u16 (o),.int .u16 (f)] 32)) ⟨Ext.setCell (hE.mored _) (by omega) _,(heap_set_other _ (by omega) (at_more ec)),(heap_set_other _ (by omega) (at_more eb)),(heap_set_other _ (by omega) (at_more er)),(heap_set _ (at_more eu))⟩ ?_
 clear hE ec eb er eu
 rintro wc ⟨hE,ec,eb,er,eu⟩
 obtain ⟨ccs,cc0,cc1,cc2,cc3,cc4,cc5⟩:=cells6_of ec
 obtain ⟨cbs,cb0,cb1,cb2,cb3,cb4⟩:=cells5_of eb
 obtain ⟨crs,cr0,cr1,cr2,cr3,cr4⟩:=cells5_of er
 obtain ⟨cus,cu0,cu1,cu2,cu3,cu4⟩:=cells5_of eu
 have fu0:=froz_cells (i:=0) eu
 have fu1:=froz_cells (i:=1) eu
 have fu2:=froz_cells (i:=2) eu
 have fu3:=froz_cells (i:=3) eu
 have fu4:=froz_cells (i:=4) eu
 go_wp2_with fail
 refine region_tail 12 (by kernel_rfl) (by kernel_rfl) ?_
 simp only [List.take_succ_cons,List.take_zero,List.drop_succ_cons,List.drop_zero]
 repeat (go_big_quiet_step ((go_at_call 99; with_reducible exact calls_more_drewN (H2.out _))))
 refine wpQuiet_nil ?_
 rintro w1 ⟨p,rfl⟩
 go_wp2_with fail
 rw [rounds_succ]
 clear ccs cc0 cc1 cc2 cc3 cc4 cc5 cbs cb0 cb1 cb2 cb3 cb4 crs cr0 cr1 cr2 cr3 cr4 cus cu0 cu1 cu2 cu3 cu4 fu0 fu1 fu2 fu3 fu4
 refine at_world (fun V => Ext w V ∧ V.heap[w.heap.size]? = some (.cells #[.int .u16 (x),.int .u16 (y),.int .u16 (z),.int .u16 (a),.int .u16 (o),.int .u16 (f)] 151) ∧ V.heap[w.heap.size + 1]? = some (.cells #[.int .u16 (bx),.int .u16 (byy),.int .u16 (bz),.int .u16 (ba),.int .u16 (ba)] 32) ∧ V.heap[w.heap.size + 1 + 1]? = some (.cells #[.int .u16 (0),.int .u16 (0),.int .u16 (0),.int .u16 (0),.int .u16 (0)] 32) ∧ V.heap[gu]? = some (.cells #[.int .u16 (V0),.int .u16 (V1),.int .u16 (V2),.int .u16 (o),.int .u16 (f)] 32)) ⟨Ext.setCell (hE.mored _) (by omega) _,(heap_set_other _ (by omega) (at_more ec)),(heap_set_other _ (by omega) (at_more eb)),(heap_set_other _ (by omega) (at_more er)),(heap_set _ (at_more eu))⟩ ?_
 clear hE ec eb er eu
 rintro wc ⟨hE,ec,eb,er,eu⟩
 obtain ⟨ccs,cc0,cc1,cc2,cc3,cc4,cc5⟩:=cells6_of ec
 obtain ⟨cbs,cb0,cb1,cb2,cb3,cb4⟩:=cells5_of eb
 obtain ⟨crs,cr0,cr1,cr2,cr3,cr4⟩:=cells5_of er
 obtain ⟨cus,cu0,cu1,cu2,cu3,cu4⟩:=cells5_of eu
 have fu0:=froz_cells (i:=0) eu
 have fu1:=froz_cells (i:=1) eu
 have fu2:=froz_cells (i:=2) eu
 have fu3:=froz_cells (i:=3) eu
 have fu4:=froz_cells (i:=4) eu
 have fr0:=froz_cells (i:=0) er
 have fr1:=froz_cells (i:=1) er
 have fr2:=froz_cells (i:=2) er
 have fr3:=froz_cells (i:=3) er
 have fr4:=froz_cells (i:=4) er
 have HE:=hd_ hE
 clear hE ec eb er eu
 go_wp2_with fail
 exact bodyPost_ret (v:=.tuple #[.agg #[.int .u16 (V0),.int .u16 (V1),.int .u16 (V2),.int .u16 (o),.int .u16 (f)],.bool true]) (by simp [results,Tryz.results87,go_sem, *]) rfl ⟨rfl,Ext.setCell (Ext.setCell (Ext.setCell (Ext.setCell (Ext.setCell (HE.out) (by omega) _) (by omega) _) (by omega) _) (by omega) _) (by omega) _⟩
end Go.Proofs.YtepfoelgegljbaaGreatDoor
