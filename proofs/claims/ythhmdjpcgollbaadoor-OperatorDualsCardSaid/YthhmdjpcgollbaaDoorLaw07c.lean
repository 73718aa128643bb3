/- The walks of OperatorDuals and OperatorOfOpaquePixels. -/
import Derived.Test.YthhmdjpcgollbaaDoorLaw07a
import Derived.Test.YthhmdjpcgollbaaDoorOpLaws
import Derived.Deep.DeepCutAuto
import Derived.BigQuiet
namespace Go.Proofs.YthhmdjpcgollbaaDoor
open Go.RowKit BigFrame
set_option linter.unusedVariables false
theorem at_world {P : Program} {c : Code} {Q : Exit → Act → World → Prop} {a : Act} {W : World} (F : World → Prop) (h : F W) (k : ∀ W, F W → c.wp P Q a W) : c.wp P Q a W := k W h

set_option maxHeartbeats 4000000 in
set_option maxRecDepth 100000 in
theorem duals_0 (op x y max : Int) (w : World) (hR : Ruled w) (opl : -9223372036854775808 ≤ op) (oph : op ≤ 9223372036854775807) (xl : -9223372036854775808 ≤ x) (xh : x ≤ 9223372036854775807) (yl : -9223372036854775808 ≤ y) (yh : y ≤ 9223372036854775807) (maxl : -9223372036854775808 ≤ max) (maxh : max ≤ 9223372036854775807) (hop : op % 7 = 0) :
    Calls Tryd.prog 5 #[.int .i64 op, .int .i64 x, .int .i64 y, .int .i64 max] w fun e w' => e = .returned (.bool true) ∧ Below w.heap.size w w' := by
  have hm : 1 ≤ gmax max ∧ gmax max ≤ 65535 := by rcases gmax_cases max with h | h <;> omega
  obtain ⟨hm0, hm1⟩ := hm
  obtain ⟨s0, s1⟩ := gsam_bounds x (gmax max) (by omega)
  obtain ⟨d0, d1⟩ := gsam_bounds y (gmax max) (by omega)
  have CM : ∀ W : World, Calls Tryd.prog 11 #[.int .i64 op, .int .i64 7] W fun e w' => e = .returned (.int .i64 0) ∧ W = w' := fun W => by have h := mod_call op 7 W (by omega) (by omega); rw [hop] at h; exact h
  replace CM := Lib.hid @CM
  have CX : ∀ W : World, Calls Tryd.prog 10 #[.int .i64 max] W fun e w' => e = .returned (.int .u16 (gmax max)) ∧ W = w' := fun W => max_call max W
  have CS : ∀ (n : Int) (W : World), -9223372036854775808 ≤ n → n ≤ 9223372036854775807 → Calls Tryd.prog 12 #[.int .i64 n, .int .u16 (gmax max)] W fun e w' => e = .returned (.int .u16 (gsam n (gmax max))) ∧ W = w' := fun n W h1 h2 => sample_call n _ W (by omega) (by omega) h1 h2
  obtain ⟨m, hm⟩ : ∃ m, m = gmax max := ⟨_, rfl⟩
  obtain ⟨a, ha⟩ : ∃ a, a = gsam x m := ⟨_, rfl⟩
  obtain ⟨b, hb⟩ : ∃ b, b = gsam y m := ⟨_, rfl⟩
  rw [← hm] at hm0 hm1 s0 s1 d0 d1 CX CS
  have CSx := fun W => CS x W xl xh
  have CSy := fun W => CS y W yl yh
  rw [← ha] at s0 s1 CSx
  rw [← hb] at d0 d1 CSy
  clear CS hop hm ha hb
  obtain ⟨l1, l2, l3, l4, l5, l6⟩ := dual_law 1 1 a b m dual1 s0 d0 s1 d1
  have F1 := fun W hW => factors_call 1 a b m W hW s0 (by omega) d0 (by omega) (by omega) (by omega)
  have F2 := fun W hW => factors_call 1 b a m W hW d0 (by omega) s0 (by omega) (by omega) (by omega)
  have A1 := fun W hW => alpha_op 1 a b m W hW s0 (by omega) d0 (by omega) (by omega) (by omega)
  have A2 := fun W hW => alpha_op 1 b a m W hW d0 (by omega) s0 (by omega) (by omega) (by omega)
  have S1 := fun W hW => shape_op 1 a b m W hW s0 (by omega) d0 (by omega) (by omega) (by omega)
  have S2 := fun W hW => shape_op 1 b a m W hW d0 (by omega) s0 (by omega) (by omega) (by omega)
  rw [l1] at F1
  rw [l2, ← l3, ← l4] at F2
  rw [← l5] at A2
  rw [← l6] at S2
  generalize faI 1 a b m = u at F1 F2
  generalize fbI 1 a b m = v at F1 F2
  generalize alpI 1 a b m = al at A1 A2
  generalize shI 1 a b m = sh at S1 S2
  replace F1 := Lib.hid @F1
  replace F2 := Lib.hid @F2
  replace A1 := Lib.hid @A1
  replace A2 := Lib.hid @A2
  replace S1 := Lib.hid @S1
  replace S2 := Lib.hid @S2
  replace CX := Lib.hid @CX
  replace CSx := Lib.hid @CSx
  replace CSy := Lib.hid @CSy
  clear l1 l2 l3 l4 l5 l6
  go_enter Tryd.func5, Tryd.ntmps5
  go_upto_region 4 with (first
    | (go_at_call 10; (with_reducible refine (CX.out _).mono ?_); rintro e w' ⟨rfl, rfl⟩)
    | (go_at_call 11; (with_reducible refine (CM.out _).mono ?_); rintro e w' ⟨rfl, rfl⟩)
    | (go_at_call 12; (with_reducible refine (CSx.out _).mono ?_); rintro e w' ⟨rfl, rfl⟩)
    | (go_at_call 12; (with_reducible refine (CSy.out _).mono ?_); rintro e w' ⟨rfl, rfl⟩))
  refine at_world (fun W => Below w.heap.size w W ∧ Ruled W ∧ w.heap.size ≤ W.heap.size ∧ w.heap.size + 1 < W.heap.size ∧ W.cell? ⟨w.heap.size + 1, 0, none⟩ = some (.int .i64 1) ∧ W.cell? ⟨w.heap.size + 1, 1, none⟩ = some (.int .i64 1)) ⟨more_below w ⟨[_, _], 0⟩, ruled_more hR ⟨[_, _], 0⟩, ?_, ?_, ?_, ?_⟩ ?_
  · simp; omega
  · simp
  · go_simp
  · go_simp
  obtain ⟨g, hg⟩ : ∃ g, g = w.heap.size + 1 := ⟨_, rfl⟩
  rw [← hg]
  clear hg hR
  rintro W ⟨hB, hR, hs, hgs, c0, c1⟩
  have d0 : ∀ p, (more W p).cell? ⟨g, 0, none⟩ = some (.int .i64 1) := fun p => (more_cell W p g 0 hgs).trans c0
  have d1 : ∀ p, (more W p).cell? ⟨g, 1, none⟩ = some (.int .i64 1) := fun p => (more_cell W p g 1 hgs).trans c1
  have G1 := F1.out W hR
  have G2 := fun p => calls_more (F2.out (more W p) (ruled_more hR p))
  replace G1 := Lib.hid @G1
  replace G2 := Lib.hid @G2
  go_upto_region 6 with (first
    | (go_at_call 13; (with_reducible refine (G1.out).mono ?_); rintro e w' ⟨rfl, p, rfl⟩)
    | (go_at_call 13; (with_reducible refine (G2.out _).mono ?_); rintro e w' ⟨rfl, p, rfl⟩))
  refine at_world (fun V => Below w.heap.size w V ∧ Ruled V ∧ w.heap.size ≤ V.heap.size ∧ g < V.heap.size ∧ V.cell? ⟨g, 0, none⟩ = some (.int .i64 1) ∧ V.cell? ⟨g, 1, none⟩ = some (.int .i64 1)) ⟨below_more hB hs _, ruled_more hR _, by rw [more_size]; omega, by rw [more_size]; omega, d0 _, d1 _⟩ ?_
  clear d0 d1 c0 c1 G1 G2 hB hR hs hgs F1 F2 CX CM CSx CSy
  rintro V ⟨hB, hR, hs, hgs, c0, c1⟩
  have d0 : ∀ p, (more V p).cell? ⟨g, 0, none⟩ = some (.int .i64 1) := fun p => (more_cell V p g 0 hgs).trans c0
  have d1 : ∀ p, (more V p).cell? ⟨g, 1, none⟩ = some (.int .i64 1) := fun p => (more_cell V p g 1 hgs).trans c1
  have W0 := fun p => calls_more (awake07 (more V p) (ruled_more hR p))
  have B1 := fun p => calls_more (A1.out (more V p) (ruled_more hR p))
  have B2 := fun p => calls_more (A2.out (more V p) (ruled_more hR p))
  have T1 := fun p => calls_more (S1.out (more V p) (ruled_more hR p))
  have T2 := fun p => calls_more (S2.out (more V p) (ruled_more hR p))
  replace W0 := Lib.hid @W0
  replace B1 := Lib.hid @B1
  replace B2 := Lib.hid @B2
  replace T1 := Lib.hid @T1
  replace T2 := Lib.hid @T2
  clear A1 A2 S1 S2
  refine region_more (by kernel_rfl) (by kernel_rfl) ?_
  repeat (go_big_quiet_step ((first
      | (go_at_call 15; exact W0.out _)
      | (go_at_call 16; first | (with_reducible exact B1.out _) | (with_reducible exact B2.out _))
      | (go_at_call 18; first | (with_reducible exact T1.out _) | (with_reducible exact T2.out _)))))
  refine wpQuiet_nil ?_
  rintro w1 ⟨p, rfl⟩
  go_wp2
  go_ret
  exact ⟨rfl, below_more hB hs _⟩
set_option maxHeartbeats 4000000 in
set_option maxRecDepth 100000 in
theorem duals_1 (op x y max : Int) (w : World) (hR : Ruled w) (opl : -9223372036854775808 ≤ op) (oph : op ≤ 9223372036854775807) (xl : -9223372036854775808 ≤ x) (xh : x ≤ 9223372036854775807) (yl : -9223372036854775808 ≤ y) (yh : y ≤ 9223372036854775807) (maxl : -9223372036854775808 ≤ max) (maxh : max ≤ 9223372036854775807) (hop : op % 7 = 1) :
    Calls Tryd.prog 5 #[.int .i64 op, .int .i64 x, .int .i64 y, .int .i64 max] w fun e w' => e = .returned (.bool true) ∧ Below w.heap.size w w' := by
  have hm : 1 ≤ gmax max ∧ gmax max ≤ 65535 := by rcases gmax_cases max with h | h <;> omega
  obtain ⟨hm0, hm1⟩ := hm
  obtain ⟨s0, s1⟩ := gsam_bounds x (gmax max) (by omega)
  obtain ⟨d0, d1⟩ := gsam_bounds y (gmax max) (by omega)
  have CM : ∀ W : World, Calls Tryd.prog 11 #[.int .i64 op, .int .i64 7] W fun e w' => e = .returned (.int .i64 1) ∧ W = w' := fun W => by have h := mod_call op 7 W (by omega) (by omega); rw [hop] at h; exact h
  replace CM := Lib.hid @CM
  have CX : ∀ W : World, Calls Tryd.prog 10 #[.int .i64 max] W fun e w' => e = .returned (.int .u16 (gmax max)) ∧ W = w' := fun W => max_call max W
  have CS : ∀ (n : Int) (W : World), -9223372036854775808 ≤ n → n ≤ 9223372036854775807 → Calls Tryd.prog 12 #[.int .i64 n, .int .u16 (gmax max)] W fun e w' => e = .returned (.int .u16 (gsam n (gmax max))) ∧ W = w' := fun n W h1 h2 => sample_call n _ W (by omega) (by omega) h1 h2
  obtain ⟨m, hm⟩ : ∃ m, m = gmax max := ⟨_, rfl⟩
  obtain ⟨a, ha⟩ : ∃ a, a = gsam x m := ⟨_, rfl⟩
  obtain ⟨b, hb⟩ : ∃ b, b = gsam y m := ⟨_, rfl⟩
  rw [← hm] at hm0 hm1 s0 s1 d0 d1 CX CS
  have CSx := fun W => CS x W xl xh
  have CSy := fun W => CS y W yl yh
  rw [← ha] at s0 s1 CSx
  rw [← hb] at d0 d1 CSy
  clear CS hop hm ha hb
  obtain ⟨l1, l2, l3, l4, l5, l6⟩ := dual_law 2 3 a b m dual2 s0 d0 s1 d1
  have F1 := fun W hW => factors_call 2 a b m W hW s0 (by omega) d0 (by omega) (by omega) (by omega)
  have F2 := fun W hW => factors_call 3 b a m W hW d0 (by omega) s0 (by omega) (by omega) (by omega)
  have A1 := fun W hW => alpha_op 2 a b m W hW s0 (by omega) d0 (by omega) (by omega) (by omega)
  have A2 := fun W hW => alpha_op 3 b a m W hW d0 (by omega) s0 (by omega) (by omega) (by omega)
  have S1 := fun W hW => shape_op 2 a b m W hW s0 (by omega) d0 (by omega) (by omega) (by omega)
  have S2 := fun W hW => shape_op 3 b a m W hW d0 (by omega) s0 (by omega) (by omega) (by omega)
  rw [l1] at F1
  rw [l2, ← l3, ← l4] at F2
  rw [← l5] at A2
  rw [← l6] at S2
  generalize faI 2 a b m = u at F1 F2
  generalize fbI 2 a b m = v at F1 F2
  generalize alpI 2 a b m = al at A1 A2
  generalize shI 2 a b m = sh at S1 S2
  replace F1 := Lib.hid @F1
  replace F2 := Lib.hid @F2
  replace A1 := Lib.hid @A1
  replace A2 := Lib.hid @A2
  replace S1 := Lib.hid @S1
  replace S2 := Lib.hid @S2
  replace CX := Lib.hid @CX
  replace CSx := Lib.hid @CSx
  replace CSy := Lib.hid @CSy
  clear l1 l2 l3 l4 l5 l6
  go_enter Tryd.func5, Tryd.ntmps5
  go_upto_region 4 with (first
    | (go_at_call 10; (with_reducible refine (CX.out _).mono ?_); rintro e w' ⟨rfl, rfl⟩)
    | (go_at_call 11; (with_reducible refine (CM.out _).mono ?_); rintro e w' ⟨rfl, rfl⟩)
    | (go_at_call 12; (with_reducible refine (CSx.out _).mono ?_); rintro e w' ⟨rfl, rfl⟩)
    | (go_at_call 12; (with_reducible refine (CSy.out _).mono ?_); rintro e w' ⟨rfl, rfl⟩))
  refine at_world (fun W => Below w.heap.size w W ∧ Ruled W ∧ w.heap.size ≤ W.heap.size ∧ w.heap.size + 1 < W.heap.size ∧ W.cell? ⟨w.heap.size + 1, 0, none⟩ = some (.int .i64 2) ∧ W.cell? ⟨w.heap.size + 1, 1, none⟩ = some (.int .i64 3)) ⟨more_below w ⟨[_, _], 0⟩, ruled_more hR ⟨[_, _], 0⟩, ?_, ?_, ?_, ?_⟩ ?_
  · simp; omega
  · simp
  · go_simp
  · go_simp
  obtain ⟨g, hg⟩ : ∃ g, g = w.heap.size + 1 := ⟨_, rfl⟩
  rw [← hg]
  clear hg hR
  rintro W ⟨hB, hR, hs, hgs, c0, c1⟩
  have d0 : ∀ p, (more W p).cell? ⟨g, 0, none⟩ = some (.int .i64 2) := fun p => (more_cell W p g 0 hgs).trans c0
  have d1 : ∀ p, (more W p).cell? ⟨g, 1, none⟩ = some (.int .i64 3) := fun p => (more_cell W p g 1 hgs).trans c1
  have G1 := F1.out W hR
  have G2 := fun p => calls_more (F2.out (more W p) (ruled_more hR p))
  replace G1 := Lib.hid @G1
  replace G2 := Lib.hid @G2
  go_upto_region 6 with (first
    | (go_at_call 13; (with_reducible refine (G1.out).mono ?_); rintro e w' ⟨rfl, p, rfl⟩)
    | (go_at_call 13; (with_reducible refine (G2.out _).mono ?_); rintro e w' ⟨rfl, p, rfl⟩))
  refine at_world (fun V => Below w.heap.size w V ∧ Ruled V ∧ w.heap.size ≤ V.heap.size ∧ g < V.heap.size ∧ V.cell? ⟨g, 0, none⟩ = some (.int .i64 2) ∧ V.cell? ⟨g, 1, none⟩ = some (.int .i64 3)) ⟨below_more hB hs _, ruled_more hR _, by rw [more_size]; omega, by rw [more_size]; omega, d0 _, d1 _⟩ ?_
  clear d0 d1 c0 c1 G1 G2 hB hR hs hgs F1 F2 CX CM CSx CSy
  rintro V ⟨hB, hR, hs, hgs, c0, c1⟩
  have d0 : ∀ p, (more V p).cell? ⟨g, 0, none⟩ = some (.int .i64 2) := fun p => (more_cell V p g 0 hgs).trans c0
  have d1 : ∀ p, (more V p).cell? ⟨g, 1, none⟩ = some (.int .i64 3) := fun p => (more_cell V p g 1 hgs).trans c1
  have W0 := fun p => calls_more (awake07 (more V p) (ruled_more hR p))
  have B1 := fun p => calls_more (A1.out (more V p) (ruled_more hR p))
  have B2 := fun p => calls_more (A2.out (more V p) (ruled_more hR p))
  have T1 := fun p => calls_more (S1.out (more V p) (ruled_more hR p))
  have T2 := fun p => calls_more (S2.out (more V p) (ruled_more hR p))
  replace W0 := Lib.hid @W0
  replace B1 := Lib.hid @B1
  replace B2 := Lib.hid @B2
  replace T1 := Lib.hid @T1
  replace T2 := Lib.hid @T2
  clear A1 A2 S1 S2
  refine region_more (by kernel_rfl) (by kernel_rfl) ?_
  repeat (go_big_quiet_step ((first
      | (go_at_call 15; exact W0.out _)
      | (go_at_call 16; first | (with_reducible exact B1.out _) | (with_reducible exact B2.out _))
      | (go_at_call 18; first | (with_reducible exact T1.out _) | (with_reducible exact T2.out _)))))
  refine wpQuiet_nil ?_
  rintro w1 ⟨p, rfl⟩
  go_wp2
  go_ret
  exact ⟨rfl, below_more hB hs _⟩
set_option maxHeartbeats 4000000 in
set_option maxRecDepth 100000 in
theorem duals_2 (op x y max : Int) (w : World) (hR : Ruled w) (opl : -9223372036854775808 ≤ op) (oph : op ≤ 9223372036854775807) (xl : -9223372036854775808 ≤ x) (xh : x ≤ 9223372036854775807) (yl : -9223372036854775808 ≤ y) (yh : y ≤ 9223372036854775807) (maxl : -9223372036854775808 ≤ max) (maxh : max ≤ 9223372036854775807) (hop : op % 7 = 2) :
    Calls Tryd.prog 5 #[.int .i64 op, .int .i64 x, .int .i64 y, .int .i64 max] w fun e w' => e = .returned (.bool true) ∧ Below w.heap.size w w' := by
  have hm : 1 ≤ gmax max ∧ gmax max ≤ 65535 := by rcases gmax_cases max with h | h <;> omega
  obtain ⟨hm0, hm1⟩ := hm
  obtain ⟨s0, s1⟩ := gsam_bounds x (gmax max) (by omega)
  obtain ⟨d0, d1⟩ := gsam_bounds y (gmax max) (by omega)
  have CM : ∀ W : World, Calls Tryd.prog 11 #[.int .i64 op, .int .i64 7] W fun e w' => e = .returned (.int .i64 2) ∧ W = w' := fun W => by have h := mod_call op 7 W (by omega) (by omega); rw [hop] at h; exact h
  replace CM := Lib.hid @CM
  have CX : ∀ W : World, Calls Tryd.prog 10 #[.int .i64 max] W fun e w' => e = .returned (.int .u16 (gmax max)) ∧ W = w' := fun W => max_call max W
  have CS : ∀ (n : Int) (W : World), -9223372036854775808 ≤ n → n ≤ 9223372036854775807 → Calls Tryd.prog 12 #[.int .i64 n, .int .u16 (gmax max)] W fun e w' => e = .returned (.int .u16 (gsam n (gmax max))) ∧ W = w' := fun n W h1 h2 => sample_call n _ W (by omega) (by omega) h1 h2
  obtain ⟨m, hm⟩ : ∃ m, m = gmax max := ⟨_, rfl⟩
  obtain ⟨a, ha⟩ : ∃ a, a = gsam x m := ⟨_, rfl⟩
  obtain ⟨b, hb⟩ : ∃ b, b = gsam y m := ⟨_, rfl⟩
  rw [← hm] at hm0 hm1 s0 s1 d0 d1 CX CS
  have CSx := fun W => CS x W xl xh
  have CSy := fun W => CS y W yl yh
  rw [← ha] at s0 s1 CSx
  rw [← hb] at d0 d1 CSy
  clear CS hop hm ha hb
  obtain ⟨l1, l2, l3, l4, l5, l6⟩ := dual_law 4 5 a b m dual4 s0 d0 s1 d1
  have F1 := fun W hW => factors_call 4 a b m W hW s0 (by omega) d0 (by omega) (by omega) (by omega)
  have F2 := fun W hW => factors_call 5 b a m W hW d0 (by omega) s0 (by omega) (by omega) (by omega)
  have A1 := fun W hW => alpha_op 4 a b m W hW s0 (by omega) d0 (by omega) (by omega) (by omega)
  have A2 := fun W hW => alpha_op 5 b a m W hW d0 (by omega) s0 (by omega) (by omega) (by omega)
  have S1 := fun W hW => shape_op 4 a b m W hW s0 (by omega) d0 (by omega) (by omega) (by omega)
  have S2 := fun W hW => shape_op 5 b a m W hW d0 (by omega) s0 (by omega) (by omega) (by omega)
  rw [l1] at F1
  rw [l2, ← l3, ← l4] at F2
  rw [← l5] at A2
  rw [← l6] at S2
  generalize faI 4 a b m = u at F1 F2
  generalize fbI 4 a b m = v at F1 F2
  generalize alpI 4 a b m = al at A1 A2
  generalize shI 4 a b m = sh at S1 S2
  replace F1 := Lib.hid @F1
  replace F2 := Lib.hid @F2
  replace A1 := Lib.hid @A1
  replace A2 := Lib.hid @A2
  replace S1 := Lib.hid @S1
  replace S2 := Lib.hid @S2
  replace CX := Lib.hid @CX
  replace CSx := Lib.hid @CSx
  replace CSy := Lib.hid @CSy
  clear l1 l2 l3 l4 l5 l6
  go_enter Tryd.func5, Tryd.ntmps5
  go_upto_region 4 with (first
    | (go_at_call 10; (with_reducible refine (CX.out _).mono ?_); rintro e w' ⟨rfl, rfl⟩)
    | (go_at_call 11; (with_reducible refine (CM.out _).mono ?_); rintro e w' ⟨rfl, rfl⟩)
    | (go_at_call 12; (with_reducible refine (CSx.out _).mono ?_); rintro e w' ⟨rfl, rfl⟩)
    | (go_at_call 12; (with_reducible refine (CSy.out _).mono ?_); rintro e w' ⟨rfl, rfl⟩))
  refine at_world (fun W => Below w.heap.size w W ∧ Ruled W ∧ w.heap.size ≤ W.heap.size ∧ w.heap.size + 1 < W.heap.size ∧ W.cell? ⟨w.heap.size + 1, 0, none⟩ = some (.int .i64 4) ∧ W.cell? ⟨w.heap.size + 1, 1, none⟩ = some (.int .i64 5)) ⟨more_below w ⟨[_, _], 0⟩, ruled_more hR ⟨[_, _], 0⟩, ?_, ?_, ?_, ?_⟩ ?_
  · simp; omega
  · simp
  · go_simp
  · go_simp
  obtain ⟨g, hg⟩ : ∃ g, g = w.heap.size + 1 := ⟨_, rfl⟩
  rw [← hg]
  clear hg hR
  rintro W ⟨hB, hR, hs, hgs, c0, c1⟩
  have d0 : ∀ p, (more W p).cell? ⟨g, 0, none⟩ = some (.int .i64 4) := fun p => (more_cell W p g 0 hgs).trans c0
  have d1 : ∀ p, (more W p).cell? ⟨g, 1, none⟩ = some (.int .i64 5) := fun p => (more_cell W p g 1 hgs).trans c1
  have G1 := F1.out W hR
  have G2 := fun p => calls_more (F2.out (more W p) (ruled_more hR p))
  replace G1 := Lib.hid @G1
  replace G2 := Lib.hid @G2
  go_upto_region 6 with (first
    | (go_at_call 13; (with_reducible refine (G1.out).mono ?_); rintro e w' ⟨rfl, p, rfl⟩)
    | (go_at_call 13; (with_reducible refine (G2.out _).mono ?_); rintro e w' ⟨rfl, p, rfl⟩))
  refine at_world (fun V => Below w.heap.size w V ∧ Ruled V ∧ w.heap.size ≤ V.heap.size ∧ g < V.heap.size ∧ V.cell? ⟨g, 0, none⟩ = some (.int .i64 4) ∧ V.cell? ⟨g, 1, none⟩ = some (.int .i64 5)) ⟨below_more hB hs _, ruled_more hR _, by rw [more_size]; omega, by rw [more_size]; omega, d0 _, d1 _⟩ ?_
  clear d0 d1 c0 c1 G1 G2 hB hR hs hgs F1 F2 CX CM CSx CSy
  rintro V ⟨hB, hR, hs, hgs, c0, c1⟩
  have d0 : ∀ p, (more V p).cell? ⟨g, 0, none⟩ = some (.int .i64 4) := fun p => (more_cell V p g 0 hgs).trans c0
  have d1 : ∀ p, (more V p).cell? ⟨g, 1, none⟩ = some (.int .i64 5) := fun p => (more_cell V p g 1 hgs).trans c1
  have W0 := fun p => calls_more (awake07 (more V p) (ruled_more hR p))
  have B1 := fun p => calls_more (A1.out (more V p) (ruled_more hR p))
  have B2 := fun p => calls_more (A2.out (more V p) (ruled_more hR p))
  have T1 := fun p => calls_more (S1.out (more V p) (ruled_more hR p))
  have T2 := fun p => calls_more (S2.out (more V p) (ruled_more hR p))
  replace W0 := Lib.hid @W0
  replace B1 := Lib.hid @B1
  replace B2 := Lib.hid @B2
  replace T1 := Lib.hid @T1
  replace T2 := Lib.hid @T2
  clear A1 A2 S1 S2
  refine region_more (by kernel_rfl) (by kernel_rfl) ?_
  repeat (go_big_quiet_step ((first
      | (go_at_call 15; exact W0.out _)
      | (go_at_call 16; first | (with_reducible exact B1.out _) | (with_reducible exact B2.out _))
      | (go_at_call 18; first | (with_reducible exact T1.out _) | (with_reducible exact T2.out _)))))
  refine wpQuiet_nil ?_
  rintro w1 ⟨p, rfl⟩
  go_wp2
  go_ret
  exact ⟨rfl, below_more hB hs _⟩
set_option maxHeartbeats 4000000 in
set_option maxRecDepth 100000 in
theorem duals_3 (op x y max : Int) (w : World) (hR : Ruled w) (opl : -9223372036854775808 ≤ op) (oph : op ≤ 9223372036854775807) (xl : -9223372036854775808 ≤ x) (xh : x ≤ 9223372036854775807) (yl : -9223372036854775808 ≤ y) (yh : y ≤ 9223372036854775807) (maxl : -9223372036854775808 ≤ max) (maxh : max ≤ 9223372036854775807) (hop : op % 7 = 3) :
    Calls Tryd.prog 5 #[.int .i64 op, .int .i64 x, .int .i64 y, .int .i64 max] w fun e w' => e = .returned (.bool true) ∧ Below w.heap.size w w' := by
  have hm : 1 ≤ gmax max ∧ gmax max ≤ 65535 := by rcases gmax_cases max with h | h <;> omega
  obtain ⟨hm0, hm1⟩ := hm
  obtain ⟨s0, s1⟩ := gsam_bounds x (gmax max) (by omega)
  obtain ⟨d0, d1⟩ := gsam_bounds y (gmax max) (by omega)
  have CM : ∀ W : World, Calls Tryd.prog 11 #[.int .i64 op, .int .i64 7] W fun e w' => e = .returned (.int .i64 3) ∧ W = w' := fun W => by have h := mod_call op 7 W (by omega) (by omega); rw [hop] at h; exact h
  replace CM := Lib.hid @CM
  have CX : ∀ W : World, Calls Tryd.prog 10 #[.int .i64 max] W fun e w' => e = .returned (.int .u16 (gmax max)) ∧ W = w' := fun W => max_call max W
  have CS : ∀ (n : Int) (W : World), -9223372036854775808 ≤ n → n ≤ 9223372036854775807 → Calls Tryd.prog 12 #[.int .i64 n, .int .u16 (gmax max)] W fun e w' => e = .returned (.int .u16 (gsam n (gmax max))) ∧ W = w' := fun n W h1 h2 => sample_call n _ W (by omega) (by omega) h1 h2
  obtain ⟨m, hm⟩ : ∃ m, m = gmax max := ⟨_, rfl⟩
  obtain ⟨a, ha⟩ : ∃ a, a = gsam x m := ⟨_, rfl⟩
  obtain ⟨b, hb⟩ : ∃ b, b = gsam y m := ⟨_, rfl⟩
  rw [← hm] at hm0 hm1 s0 s1 d0 d1 CX CS
  have CSx := fun W => CS x W xl xh
  have CSy := fun W => CS y W yl yh
  rw [← ha] at s0 s1 CSx
  rw [← hb] at d0 d1 CSy
  clear CS hop hm ha hb
  obtain ⟨l1, l2, l3, l4, l5, l6⟩ := dual_law 6 7 a b m dual6 s0 d0 s1 d1
  have F1 := fun W hW => factors_call 6 a b m W hW s0 (by omega) d0 (by omega) (by omega) (by omega)
  have F2 := fun W hW => factors_call 7 b a m W hW d0 (by omega) s0 (by omega) (by omega) (by omega)
  have A1 := fun W hW => alpha_op 6 a b m W hW s0 (by omega) d0 (by omega) (by omega) (by omega)
  have A2 := fun W hW => alpha_op 7 b a m W hW d0 (by omega) s0 (by omega) (by omega) (by omega)
  have S1 := fun W hW => shape_op 6 a b m W hW s0 (by omega) d0 (by omega) (by omega) (by omega)
  have S2 := fun W hW => shape_op 7 b a m W hW d0 (by omega) s0 (by omega) (by omega) (by omega)
  rw [l1] at F1
  rw [l2, ← l3, ← l4] at F2
  rw [← l5] at A2
  rw [← l6] at S2
  generalize faI 6 a b m = u at F1 F2
  generalize fbI 6 a b m = v at F1 F2
  generalize alpI 6 a b m = al at A1 A2
  generalize shI 6 a b m = sh at S1 S2
  replace F1 := Lib.hid @F1
  replace F2 := Lib.hid @F2
  replace A1 := Lib.hid @A1
  replace A2 := Lib.hid @A2
  replace S1 := Lib.hid @S1
  replace S2 := Lib.hid @S2
  replace CX := Lib.hid @CX
  replace CSx := Lib.hid @CSx
  replace CSy := Lib.hid @CSy
  clear l1 l2 l3 l4 l5 l6
  go_enter Tryd.func5, Tryd.ntmps5
  go_upto_region 4 with (first
    | (go_at_call 10; (with_reducible refine (CX.out _).mono ?_); rintro e w' ⟨rfl, rfl⟩)
    | (go_at_call 11; (with_reducible refine (CM.out _).mono ?_); rintro e w' ⟨rfl, rfl⟩)
    | (go_at_call 12; (with_reducible refine (CSx.out _).mono ?_); rintro e w' ⟨rfl, rfl⟩)
    | (go_at_call 12; (with_reducible refine (CSy.out _).mono ?_); rintro e w' ⟨rfl, rfl⟩))
  refine at_world (fun W => Below w.heap.size w W ∧ Ruled W ∧ w.heap.size ≤ W.heap.size ∧ w.heap.size + 1 < W.heap.size ∧ W.cell? ⟨w.heap.size + 1, 0, none⟩ = some (.int .i64 6) ∧ W.cell? ⟨w.heap.size + 1, 1, none⟩ = some (.int .i64 7)) ⟨more_below w ⟨[_, _], 0⟩, ruled_more hR ⟨[_, _], 0⟩, ?_, ?_, ?_, ?_⟩ ?_
  · simp; omega
  · simp
  · go_simp
  · go_simp
  obtain ⟨g, hg⟩ : ∃ g, g = w.heap.size + 1 := ⟨_, rfl⟩
  rw [← hg]
  clear hg hR
  rintro W ⟨hB, hR, hs, hgs, c0, c1⟩
  have d0 : ∀ p, (more W p).cell? ⟨g, 0, none⟩ = some (.int .i64 6) := fun p => (more_cell W p g 0 hgs).trans c0
  have d1 : ∀ p, (more W p).cell? ⟨g, 1, none⟩ = some (.int .i64 7) := fun p => (more_cell W p g 1 hgs).trans c1
  have G1 := F1.out W hR
  have G2 := fun p => calls_more (F2.out (more W p) (ruled_more hR p))
  replace G1 := Lib.hid @G1
  replace G2 := Lib.hid @G2
  go_upto_region 6 with (first
    | (go_at_call 13; (with_reducible refine (G1.out).mono ?_); rintro e w' ⟨rfl, p, rfl⟩)
    | (go_at_call 13; (with_reducible refine (G2.out _).mono ?_); rintro e w' ⟨rfl, p, rfl⟩))
  refine at_world (fun V => Below w.heap.size w V ∧ Ruled V ∧ w.heap.size ≤ V.heap.size ∧ g < V.heap.size ∧ V.cell? ⟨g, 0, none⟩ = some (.int .i64 6) ∧ V.cell? ⟨g, 1, none⟩ = some (.int .i64 7)) ⟨below_more hB hs _, ruled_more hR _, by rw [more_size]; omega, by rw [more_size]; omega, d0 _, d1 _⟩ ?_
  clear d0 d1 c0 c1 G1 G2 hB hR hs hgs F1 F2 CX CM CSx CSy
  rintro V ⟨hB, hR, hs, hgs, c0, c1⟩
  have d0 : ∀ p, (more V p).cell? ⟨g, 0, none⟩ = some (.int .i64 6) := fun p => (more_cell V p g 0 hgs).trans c0
  have d1 : ∀ p, (more V p).cell? ⟨g, 1, none⟩ = some (.int .i64 7) := fun p => (more_cell V p g 1 hgs).trans c1
  have W0 := fun p => calls_more (awake07 (more V p) (ruled_more hR p))
  have B1 := fun p => calls_more (A1.out (more V p) (ruled_more hR p))
  have B2 := fun p => calls_more (A2.out (more V p) (ruled_more hR p))
  have T1 := fun p => calls_more (S1.out (more V p) (ruled_more hR p))
  have T2 := fun p => calls_more (S2.out (more V p) (ruled_more hR p))
  replace W0 := Lib.hid @W0
  replace B1 := Lib.hid @B1
  replace B2 := Lib.hid @B2
  replace T1 := Lib.hid @T1
  replace T2 := Lib.hid @T2
  clear A1 A2 S1 S2
  refine region_more (by kernel_rfl) (by kernel_rfl) ?_
  repeat (go_big_quiet_step ((first
      | (go_at_call 15; exact W0.out _)
      | (go_at_call 16; first | (with_reducible exact B1.out _) | (with_reducible exact B2.out _))
      | (go_at_call 18; first | (with_reducible exact T1.out _) | (with_reducible exact T2.out _)))))
  refine wpQuiet_nil ?_
  rintro w1 ⟨p, rfl⟩
  go_wp2
  go_ret
  exact ⟨rfl, below_more hB hs _⟩
set_option maxHeartbeats 4000000 in
set_option maxRecDepth 100000 in
theorem duals_4 (op x y max : Int) (w : World) (hR : Ruled w) (opl : -9223372036854775808 ≤ op) (oph : op ≤ 9223372036854775807) (xl : -9223372036854775808 ≤ x) (xh : x ≤ 9223372036854775807) (yl : -9223372036854775808 ≤ y) (yh : y ≤ 9223372036854775807) (maxl : -9223372036854775808 ≤ max) (maxh : max ≤ 9223372036854775807) (hop : op % 7 = 4) :
    Calls Tryd.prog 5 #[.int .i64 op, .int .i64 x, .int .i64 y, .int .i64 max] w fun e w' => e = .returned (.bool true) ∧ Below w.heap.size w w' := by
  have hm : 1 ≤ gmax max ∧ gmax max ≤ 65535 := by rcases gmax_cases max with h | h <;> omega
  obtain ⟨hm0, hm1⟩ := hm
  obtain ⟨s0, s1⟩ := gsam_bounds x (gmax max) (by omega)
  obtain ⟨d0, d1⟩ := gsam_bounds y (gmax max) (by omega)
  have CM : ∀ W : World, Calls Tryd.prog 11 #[.int .i64 op, .int .i64 7] W fun e w' => e = .returned (.int .i64 4) ∧ W = w' := fun W => by have h := mod_call op 7 W (by omega) (by omega); rw [hop] at h; exact h
  replace CM := Lib.hid @CM
  have CX : ∀ W : World, Calls Tryd.prog 10 #[.int .i64 max] W fun e w' => e = .returned (.int .u16 (gmax max)) ∧ W = w' := fun W => max_call max W
  have CS : ∀ (n : Int) (W : World), -9223372036854775808 ≤ n → n ≤ 9223372036854775807 → Calls Tryd.prog 12 #[.int .i64 n, .int .u16 (gmax max)] W fun e w' => e = .returned (.int .u16 (gsam n (gmax max))) ∧ W = w' := fun n W h1 h2 => sample_call n _ W (by omega) (by omega) h1 h2
  obtain ⟨m, hm⟩ : ∃ m, m = gmax max := ⟨_, rfl⟩
  obtain ⟨a, ha⟩ : ∃ a, a = gsam x m := ⟨_, rfl⟩
  obtain ⟨b, hb⟩ : ∃ b, b = gsam y m := ⟨_, rfl⟩
  rw [← hm] at hm0 hm1 s0 s1 d0 d1 CX CS
  have CSx := fun W => CS x W xl xh
  have CSy := fun W => CS y W yl yh
  rw [← ha] at s0 s1 CSx
  rw [← hb] at d0 d1 CSy
  clear CS hop hm ha hb
  obtain ⟨l1, l2, l3, l4, l5, l6⟩ := dual_law 8 9 a b m dual8 s0 d0 s1 d1
  have F1 := fun W hW => factors_call 8 a b m W hW s0 (by omega) d0 (by omega) (by omega) (by omega)
  have F2 := fun W hW => factors_call 9 b a m W hW d0 (by omega) s0 (by omega) (by omega) (by omega)
  have A1 := fun W hW => alpha_op 8 a b m W hW s0 (by omega) d0 (by omega) (by omega) (by omega)
  have A2 := fun W hW => alpha_op 9 b a m W hW d0 (by omega) s0 (by omega) (by omega) (by omega)
  have S1 := fun W hW => shape_op 8 a b m W hW s0 (by omega) d0 (by omega) (by omega) (by omega)
  have S2 := fun W hW => shape_op 9 b a m W hW d0 (by omega) s0 (by omega) (by omega) (by omega)
  rw [l1] at F1
  rw [l2, ← l3, ← l4] at F2
  rw [← l5] at A2
  rw [← l6] at S2
  generalize faI 8 a b m = u at F1 F2
  generalize fbI 8 a b m = v at F1 F2
  generalize alpI 8 a b m = al at A1 A2
  generalize shI 8 a b m = sh at S1 S2
  replace F1 := Lib.hid @F1
  replace F2 := Lib.hid @F2
  replace A1 := Lib.hid @A1
  replace A2 := Lib.hid @A2
  replace S1 := Lib.hid @S1
  replace S2 := Lib.hid @S2
  replace CX := Lib.hid @CX
  replace CSx := Lib.hid @CSx
  replace CSy := Lib.hid @CSy
  clear l1 l2 l3 l4 l5 l6
  go_enter Tryd.func5, Tryd.ntmps5
  go_upto_region 4 with (first
    | (go_at_call 10; (with_reducible refine (CX.out _).mono ?_); rintro e w' ⟨rfl, rfl⟩)
    | (go_at_call 11; (with_reducible refine (CM.out _).mono ?_); rintro e w' ⟨rfl, rfl⟩)
    | (go_at_call 12; (with_reducible refine (CSx.out _).mono ?_); rintro e w' ⟨rfl, rfl⟩)
    | (go_at_call 12; (with_reducible refine (CSy.out _).mono ?_); rintro e w' ⟨rfl, rfl⟩))
  refine at_world (fun W => Below w.heap.size w W ∧ Ruled W ∧ w.heap.size ≤ W.heap.size ∧ w.heap.size + 1 < W.heap.size ∧ W.cell? ⟨w.heap.size + 1, 0, none⟩ = some (.int .i64 8) ∧ W.cell? ⟨w.heap.size + 1, 1, none⟩ = some (.int .i64 9)) ⟨more_below w ⟨[_, _], 0⟩, ruled_more hR ⟨[_, _], 0⟩, ?_, ?_, ?_, ?_⟩ ?_
  · simp; omega
  · simp
  · go_simp
  · go_simp
  obtain ⟨g, hg⟩ : ∃ g, g = w.heap.size + 1 := ⟨_, rfl⟩
  rw [← hg]
  clear hg hR
  rintro W ⟨hB, hR, hs, hgs, c0, c1⟩
  have d0 : ∀ p, (more W p).cell? ⟨g, 0, none⟩ = some (.int .i64 8) := fun p => (more_cell W p g 0 hgs).trans c0
  have d1 : ∀ p, (more W p).cell? ⟨g, 1, none⟩ = some (.int .i64 9) := fun p => (more_cell W p g 1 hgs).trans c1
  have G1 := F1.out W hR
  have G2 := fun p => calls_more (F2.out (more W p) (ruled_more hR p))
  replace G1 := Lib.hid @G1
  replace G2 := Lib.hid @G2
  go_upto_region 6 with (first
    | (go_at_call 13; (with_reducible refine (G1.out).mono ?_); rintro e w' ⟨rfl, p, rfl⟩)
    | (go_at_call 13; (with_reducible refine (G2.out _).mono ?_); rintro e w' ⟨rfl, p, rfl⟩))
  refine at_world (fun V => Below w.heap.size w V ∧ Ruled V ∧ w.heap.size ≤ V.heap.size ∧ g < V.heap.size ∧ V.cell? ⟨g, 0, none⟩ = some (.int .i64 8) ∧ V.cell? ⟨g, 1, none⟩ = some (.int .i64 9)) ⟨below_more hB hs _, ruled_more hR _, by rw [more_size]; omega, by rw [more_size]; omega, d0 _, d1 _⟩ ?_
  clear d0 d1 c0 c1 G1 G2 hB hR hs hgs F1 F2 CX CM CSx CSy
  rintro V ⟨hB, hR, hs, hgs, c0, c1⟩
  have d0 : ∀ p, (more V p).cell? ⟨g, 0, none⟩ = some (.int .i64 8) := fun p => (more_cell V p g 0 hgs).trans c0
  have d1 : ∀ p, (more V p).cell? ⟨g, 1, none⟩ = some (.int .i64 9) := fun p => (more_cell V p g 1 hgs).trans c1
  have W0 := fun p => calls_more (awake07 (more V p) (ruled_more hR p))
  have B1 := fun p => calls_more (A1.out (more V p) (ruled_more hR p))
  have B2 := fun p => calls_more (A2.out (more V p) (ruled_more hR p))
  have T1 := fun p => calls_more (S1.out (more V p) (ruled_more hR p))
  have T2 := fun p => calls_more (S2.out (more V p) (ruled_more hR p))
  replace W0 := Lib.hid @W0
  replace B1 := Lib.hid @B1
  replace B2 := Lib.hid @B2
  replace T1 := Lib.hid @T1
  replace T2 := Lib.hid @T2
  clear A1 A2 S1 S2
  refine region_more (by kernel_rfl) (by kernel_rfl) ?_
  repeat (go_big_quiet_step ((first
      | (go_at_call 15; exact W0.out _)
      | (go_at_call 16; first | (with_reducible exact B1.out _) | (with_reducible exact B2.out _))
      | (go_at_call 18; first | (with_reducible exact T1.out _) | (with_reducible exact T2.out _)))))
  refine wpQuiet_nil ?_
  rintro w1 ⟨p, rfl⟩
  go_wp2
  go_ret
  exact ⟨rfl, below_more hB hs _⟩
set_option maxHeartbeats 4000000 in
set_option maxRecDepth 100000 in
theorem duals_5 (op x y max : Int) (w : World) (hR : Ruled w) (opl : -9223372036854775808 ≤ op) (oph : op ≤ 9223372036854775807) (xl : -9223372036854775808 ≤ x) (xh : x ≤ 9223372036854775807) (yl : -9223372036854775808 ≤ y) (yh : y ≤ 9223372036854775807) (maxl : -9223372036854775808 ≤ max) (maxh : max ≤ 9223372036854775807) (hop : op % 7 = 5) :
    Calls Tryd.prog 5 #[.int .i64 op, .int .i64 x, .int .i64 y, .int .i64 max] w fun e w' => e = .returned (.bool true) ∧ Below w.heap.size w w' := by
  have hm : 1 ≤ gmax max ∧ gmax max ≤ 65535 := by rcases gmax_cases max with h | h <;> omega
  obtain ⟨hm0, hm1⟩ := hm
  obtain ⟨s0, s1⟩ := gsam_bounds x (gmax max) (by omega)
  obtain ⟨d0, d1⟩ := gsam_bounds y (gmax max) (by omega)
  have CM : ∀ W : World, Calls Tryd.prog 11 #[.int .i64 op, .int .i64 7] W fun e w' => e = .returned (.int .i64 5) ∧ W = w' := fun W => by have h := mod_call op 7 W (by omega) (by omega); rw [hop] at h; exact h
  replace CM := Lib.hid @CM
  have CX : ∀ W : World, Calls Tryd.prog 10 #[.int .i64 max] W fun e w' => e = .returned (.int .u16 (gmax max)) ∧ W = w' := fun W => max_call max W
  have CS : ∀ (n : Int) (W : World), -9223372036854775808 ≤ n → n ≤ 9223372036854775807 → Calls Tryd.prog 12 #[.int .i64 n, .int .u16 (gmax max)] W fun e w' => e = .returned (.int .u16 (gsam n (gmax max))) ∧ W = w' := fun n W h1 h2 => sample_call n _ W (by omega) (by omega) h1 h2
  obtain ⟨m, hm⟩ : ∃ m, m = gmax max := ⟨_, rfl⟩
  obtain ⟨a, ha⟩ : ∃ a, a = gsam x m := ⟨_, rfl⟩
  obtain ⟨b, hb⟩ : ∃ b, b = gsam y m := ⟨_, rfl⟩
  rw [← hm] at hm0 hm1 s0 s1 d0 d1 CX CS
  have CSx := fun W => CS x W xl xh
  have CSy := fun W => CS y W yl yh
  rw [← ha] at s0 s1 CSx
  rw [← hb] at d0 d1 CSy
  clear CS hop hm ha hb
  obtain ⟨l1, l2, l3, l4, l5, l6⟩ := dual_law 10 11 a b m dual10 s0 d0 s1 d1
  have F1 := fun W hW => factors_call 10 a b m W hW s0 (by omega) d0 (by omega) (by omega) (by omega)
  have F2 := fun W hW => factors_call 11 b a m W hW d0 (by omega) s0 (by omega) (by omega) (by omega)
  have A1 := fun W hW => alpha_op 10 a b m W hW s0 (by omega) d0 (by omega) (by omega) (by omega)
  have A2 := fun W hW => alpha_op 11 b a m W hW d0 (by omega) s0 (by omega) (by omega) (by omega)
  have S1 := fun W hW => shape_op 10 a b m W hW s0 (by omega) d0 (by omega) (by omega) (by omega)
  have S2 := fun W hW => shape_op 11 b a m W hW d0 (by omega) s0 (by omega) (by omega) (by omega)
  rw [l1] at F1
  rw [l2, ← l3, ← l4] at F2
  rw [← l5] at A2
  rw [← l6] at S2
  generalize faI 10 a b m = u at F1 F2
  generalize fbI 10 a b m = v at F1 F2
  generalize alpI 10 a b m = al at A1 A2
  generalize shI 10 a b m = sh at S1 S2
  replace F1 := Lib.hid @F1
  replace F2 := Lib.hid @F2
  replace A1 := Lib.hid @A1
  replace A2 := Lib.hid @A2
  replace S1 := Lib.hid @S1
  replace S2 := Lib.hid @S2
  replace CX := Lib.hid @CX
  replace CSx := Lib.hid @CSx
  replace CSy := Lib.hid @CSy
  clear l1 l2 l3 l4 l5 l6
  go_enter Tryd.func5, Tryd.ntmps5
  go_upto_region 4 with (first
    | (go_at_call 10; (with_reducible refine (CX.out _).mono ?_); rintro e w' ⟨rfl, rfl⟩)
    | (go_at_call 11; (with_reducible refine (CM.out _).mono ?_); rintro e w' ⟨rfl, rfl⟩)
    | (go_at_call 12; (with_reducible refine (CSx.out _).mono ?_); rintro e w' ⟨rfl, rfl⟩)
    | (go_at_call 12; (with_reducible refine (CSy.out _).mono ?_); rintro e w' ⟨rfl, rfl⟩))
  refine at_world (fun W => Below w.heap.size w W ∧ Ruled W ∧ w.heap.size ≤ W.heap.size ∧ w.heap.size + 1 < W.heap.size ∧ W.cell? ⟨w.heap.size + 1, 0, none⟩ = some (.int .i64 10) ∧ W.cell? ⟨w.heap.size + 1, 1, none⟩ = some (.int .i64 11)) ⟨more_below w ⟨[_, _], 0⟩, ruled_more hR ⟨[_, _], 0⟩, ?_, ?_, ?_, ?_⟩ ?_
  · simp; omega
  · simp
  · go_simp
  · go_simp
  obtain ⟨g, hg⟩ : ∃ g, g = w.heap.size + 1 := ⟨_, rfl⟩
  rw [← hg]
  clear hg hR
  rintro W ⟨hB, hR, hs, hgs, c0, c1⟩
  have d0 : ∀ p, (more W p).cell? ⟨g, 0, none⟩ = some (.int .i64 10) := fun p => (more_cell W p g 0 hgs).trans c0
  have d1 : ∀ p, (more W p).cell? ⟨g, 1, none⟩ = some (.int .i64 11) := fun p => (more_cell W p g 1 hgs).trans c1
  have G1 := F1.out W hR
  have G2 := fun p => calls_more (F2.out (more W p) (ruled_more hR p))
  replace G1 := Lib.hid @G1
  replace G2 := Lib.hid @G2
  go_upto_region 6 with (first
    | (go_at_call 13; (with_reducible refine (G1.out).mono ?_); rintro e w' ⟨rfl, p, rfl⟩)
    | (go_at_call 13; (with_reducible refine (G2.out _).mono ?_); rintro e w' ⟨rfl, p, rfl⟩))
  refine at_world (fun V => Below w.heap.size w V ∧ Ruled V ∧ w.heap.size ≤ V.heap.size ∧ g < V.heap.size ∧ V.cell? ⟨g, 0, none⟩ = some (.int .i64 10) ∧ V.cell? ⟨g, 1, none⟩ = some (.int .i64 11)) ⟨below_more hB hs _, ruled_more hR _, by rw [more_size]; omega, by rw [more_size]; omega, d0 _, d1 _⟩ ?_
  clear d0 d1 c0 c1 G1 G2 hB hR hs hgs F1 F2 CX CM CSx CSy
  rintro V ⟨hB, hR, hs, hgs, c0, c1⟩
  have d0 : ∀ p, (more V p).cell? ⟨g, 0, none⟩ = some (.int .i64 10) := fun p => (more_cell V p g 0 hgs).trans c0
  have d1 : ∀ p, (more V p).cell? ⟨g, 1, none⟩ = some (.int .i64 11) := fun p => (more_cell V p g 1 hgs).trans c1
  have W0 := fun p => calls_more (awake07 (more V p) (ruled_more hR p))
  have B1 := fun p => calls_more (A1.out (more V p) (ruled_more hR p))
  have B2 := fun p => calls_more (A2.out (more V p) (ruled_more hR p))
  have T1 := fun p => calls_more (S1.out (more V p) (ruled_more hR p))
  have T2 := fun p => calls_more (S2.out (more V p) (ruled_more hR p))
  replace W0 := Lib.hid @W0
  replace B1 := Lib.hid @B1
  replace B2 := Lib.hid @B2
  replace T1 := Lib.hid @T1
  replace T2 := Lib.hid @T2
  clear A1 A2 S1 S2
  refine region_more (by kernel_rfl) (by kernel_rfl) ?_
  repeat (go_big_quiet_step ((first
      | (go_at_call 15; exact W0.out _)
      | (go_at_call 16; first | (with_reducible exact B1.out _) | (with_reducible exact B2.out _))
      | (go_at_call 18; first | (with_reducible exact T1.out _) | (with_reducible exact T2.out _)))))
  refine wpQuiet_nil ?_
  rintro w1 ⟨p, rfl⟩
  go_wp2
  go_ret
  exact ⟨rfl, below_more hB hs _⟩
set_option maxHeartbeats 4000000 in
set_option maxRecDepth 100000 in
theorem duals_6 (op x y max : Int) (w : World) (hR : Ruled w) (opl : -9223372036854775808 ≤ op) (oph : op ≤ 9223372036854775807) (xl : -9223372036854775808 ≤ x) (xh : x ≤ 9223372036854775807) (yl : -9223372036854775808 ≤ y) (yh : y ≤ 9223372036854775807) (maxl : -9223372036854775808 ≤ max) (maxh : max ≤ 9223372036854775807) (hop : op % 7 = 6) :
    Calls Tryd.prog 5 #[.int .i64 op, .int .i64 x, .int .i64 y, .int .i64 max] w fun e w' => e = .returned (.bool true) ∧ Below w.heap.size w w' := by
  have hm : 1 ≤ gmax max ∧ gmax max ≤ 65535 := by rcases gmax_cases max with h | h <;> omega
  obtain ⟨hm0, hm1⟩ := hm
  obtain ⟨s0, s1⟩ := gsam_bounds x (gmax max) (by omega)
  obtain ⟨d0, d1⟩ := gsam_bounds y (gmax max) (by omega)
  have CM : ∀ W : World, Calls Tryd.prog 11 #[.int .i64 op, .int .i64 7] W fun e w' => e = .returned (.int .i64 6) ∧ W = w' := fun W => by have h := mod_call op 7 W (by omega) (by omega); rw [hop] at h; exact h
  replace CM := Lib.hid @CM
  have CX : ∀ W : World, Calls Tryd.prog 10 #[.int .i64 max] W fun e w' => e = .returned (.int .u16 (gmax max)) ∧ W = w' := fun W => max_call max W
  have CS : ∀ (n : Int) (W : World), -9223372036854775808 ≤ n → n ≤ 9223372036854775807 → Calls Tryd.prog 12 #[.int .i64 n, .int .u16 (gmax max)] W fun e w' => e = .returned (.int .u16 (gsam n (gmax max))) ∧ W = w' := fun n W h1 h2 => sample_call n _ W (by omega) (by omega) h1 h2
  obtain ⟨m, hm⟩ : ∃ m, m = gmax max := ⟨_, rfl⟩
  obtain ⟨a, ha⟩ : ∃ a, a = gsam x m := ⟨_, rfl⟩
  obtain ⟨b, hb⟩ : ∃ b, b = gsam y m := ⟨_, rfl⟩
  rw [← hm] at hm0 hm1 s0 s1 d0 d1 CX CS
  have CSx := fun W => CS x W xl xh
  have CSy := fun W => CS y W yl yh
  rw [← ha] at s0 s1 CSx
  rw [← hb] at d0 d1 CSy
  clear CS hop hm ha hb
  obtain ⟨l1, l2, l3, l4, l5, l6⟩ := dual_law 12 12 a b m dual12 s0 d0 s1 d1
  have F1 := fun W hW => factors_call 12 a b m W hW s0 (by omega) d0 (by omega) (by omega) (by omega)
  have F2 := fun W hW => factors_call 12 b a m W hW d0 (by omega) s0 (by omega) (by omega) (by omega)
  have A1 := fun W hW => alpha_op 12 a b m W hW s0 (by omega) d0 (by omega) (by omega) (by omega)
  have A2 := fun W hW => alpha_op 12 b a m W hW d0 (by omega) s0 (by omega) (by omega) (by omega)
  have S1 := fun W hW => shape_op 12 a b m W hW s0 (by omega) d0 (by omega) (by omega) (by omega)
  have S2 := fun W hW => shape_op 12 b a m W hW d0 (by omega) s0 (by omega) (by omega) (by omega)
  rw [l1] at F1
  rw [l2, ← l3, ← l4] at F2
  rw [← l5] at A2
  rw [← l6] at S2
  generalize faI 12 a b m = u at F1 F2
  generalize fbI 12 a b m = v at F1 F2
  generalize alpI 12 a b m = al at A1 A2
  generalize shI 12 a b m = sh at S1 S2
  replace F1 := Lib.hid @F1
  replace F2 := Lib.hid @F2
  replace A1 := Lib.hid @A1
  replace A2 := Lib.hid @A2
  replace S1 := Lib.hid @S1
  replace S2 := Lib.hid @S2
  replace CX := Lib.hid @CX
  replace CSx := Lib.hid @CSx
  replace CSy := Lib.hid @CSy
  clear l1 l2 l3 l4 l5 l6
  go_enter Tryd.func5, Tryd.ntmps5
  go_upto_region 4 with (first
    | (go_at_call 10; (with_reducible refine (CX.out _).mono ?_); rintro e w' ⟨rfl, rfl⟩)
    | (go_at_call 11; (with_reducible refine (CM.out _).mono ?_); rintro e w' ⟨rfl, rfl⟩)
    | (go_at_call 12; (with_reducible refine (CSx.out _).mono ?_); rintro e w' ⟨rfl, rfl⟩)
    | (go_at_call 12; (with_reducible refine (CSy.out _).mono ?_); rintro e w' ⟨rfl, rfl⟩))
  refine at_world (fun W => Below w.heap.size w W ∧ Ruled W ∧ w.heap.size ≤ W.heap.size ∧ w.heap.size + 1 < W.heap.size ∧ W.cell? ⟨w.heap.size + 1, 0, none⟩ = some (.int .i64 12) ∧ W.cell? ⟨w.heap.size + 1, 1, none⟩ = some (.int .i64 12)) ⟨more_below w ⟨[_, _], 0⟩, ruled_more hR ⟨[_, _], 0⟩, ?_, ?_, ?_, ?_⟩ ?_
  · simp; omega
  · simp
  · go_simp
  · go_simp
  obtain ⟨g, hg⟩ : ∃ g, g = w.heap.size + 1 := ⟨_, rfl⟩
  rw [← hg]
  clear hg hR
  rintro W ⟨hB, hR, hs, hgs, c0, c1⟩
  have d0 : ∀ p, (more W p).cell? ⟨g, 0, none⟩ = some (.int .i64 12) := fun p => (more_cell W p g 0 hgs).trans c0
  have d1 : ∀ p, (more W p).cell? ⟨g, 1, none⟩ = some (.int .i64 12) := fun p => (more_cell W p g 1 hgs).trans c1
  have G1 := F1.out W hR
  have G2 := fun p => calls_more (F2.out (more W p) (ruled_more hR p))
  replace G1 := Lib.hid @G1
  replace G2 := Lib.hid @G2
  go_upto_region 6 with (first
    | (go_at_call 13; (with_reducible refine (G1.out).mono ?_); rintro e w' ⟨rfl, p, rfl⟩)
    | (go_at_call 13; (with_reducible refine (G2.out _).mono ?_); rintro e w' ⟨rfl, p, rfl⟩))
  refine at_world (fun V => Below w.heap.size w V ∧ Ruled V ∧ w.heap.size ≤ V.heap.size ∧ g < V.heap.size ∧ V.cell? ⟨g, 0, none⟩ = some (.int .i64 12) ∧ V.cell? ⟨g, 1, none⟩ = some (.int .i64 12)) ⟨below_more hB hs _, ruled_more hR _, by rw [more_size]; omega, by rw [more_size]; omega, d0 _, d1 _⟩ ?_
  clear d0 d1 c0 c1 G1 G2 hB hR hs hgs F1 F2 CX CM CSx CSy
  rintro V ⟨hB, hR, hs, hgs, c0, c1⟩
  have d0 : ∀ p, (more V p).cell? ⟨g, 0, none⟩ = some (.int .i64 12) := fun p => (more_cell V p g 0 hgs).trans c0
  have d1 : ∀ p, (more V p).cell? ⟨g, 1, none⟩ = some (.int .i64 12) := fun p => (more_cell V p g 1 hgs).trans c1
  have W0 := fun p => calls_more (awake07 (more V p) (ruled_more hR p))
  have B1 := fun p => calls_more (A1.out (more V p) (ruled_more hR p))
  have B2 := fun p => calls_more (A2.out (more V p) (ruled_more hR p))
  have T1 := fun p => calls_more (S1.out (more V p) (ruled_more hR p))
  have T2 := fun p => calls_more (S2.out (more V p) (ruled_more hR p))
  replace W0 := Lib.hid @W0
  replace B1 := Lib.hid @B1
  replace B2 := Lib.hid @B2
  replace T1 := Lib.hid @T1
  replace T2 := Lib.hid @T2
  clear A1 A2 S1 S2
  refine region_more (by kernel_rfl) (by kernel_rfl) ?_
  repeat (go_big_quiet_step ((first
      | (go_at_call 15; exact W0.out _)
      | (go_at_call 16; first | (with_reducible exact B1.out _) | (with_reducible exact B2.out _))
      | (go_at_call 18; first | (with_reducible exact T1.out _) | (with_reducible exact T2.out _)))))
  refine wpQuiet_nil ?_
  rintro w1 ⟨p, rfl⟩
  go_wp2
  go_ret
  exact ⟨rfl, below_more hB hs _⟩
theorem operatorDuals_walk (op x y max : Int) (w : World) (hR : Ruled w) (opl : -9223372036854775808 ≤ op) (oph : op ≤ 9223372036854775807) (xl : -9223372036854775808 ≤ x) (xh : x ≤ 9223372036854775807) (yl : -9223372036854775808 ≤ y) (yh : y ≤ 9223372036854775807) (maxl : -9223372036854775808 ≤ max) (maxh : max ≤ 9223372036854775807) :
    Calls Tryd.prog 5 #[.int .i64 op, .int .i64 x, .int .i64 y, .int .i64 max] w fun e w' => e = .returned (.bool true) ∧ Below w.heap.size w w' := by
  have h : op % 7 = 0 ∨ op % 7 = 1 ∨ op % 7 = 2 ∨ op % 7 = 3 ∨ op % 7 = 4 ∨ op % 7 = 5 ∨ op % 7 = 6 := by omega
  rcases h with h | h | h | h | h | h | h
  · exact duals_0 op x y max w hR opl oph xl xh yl yh maxl maxh h
  · exact duals_1 op x y max w hR opl oph xl xh yl yh maxl maxh h
  · exact duals_2 op x y max w hR opl oph xl xh yl yh maxl maxh h
  · exact duals_3 op x y max w hR opl oph xl xh yl yh maxl maxh h
  · exact duals_4 op x y max w hR opl oph xl xh yl yh maxl maxh h
  · exact duals_5 op x y max w hR opl oph xl xh yl yh maxl maxh h
  · exact duals_6 op x y max w hR opl oph xl xh yl yh maxl maxh h
end Go.Proofs.YthhmdjpcgollbaaDoor
