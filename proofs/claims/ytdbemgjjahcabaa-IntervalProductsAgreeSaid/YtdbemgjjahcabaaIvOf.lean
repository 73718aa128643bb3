/- Contracts of near, scaled, Of and Contains. -/
import Derived.Test.YtdbemgjjahcabaaIvMem
import Derived.Test.YtdbemgjjahcabaaRat
namespace Go.Proofs.Ytdbemgjjahcabaa
open Go.RowKit
set_option linter.unusedVariables false

/-- whether a number is from -U to U -/
def nearB (v : Int) : Bool := decide (-1099511627776 ≤ v ∧ v ≤ 1099511627776)
theorem nearB_parts {v : Int} (h : nearB v = true) : -1099511627776 ≤ v ∧ v ≤ 1099511627776 := of_decide_eq_true h
def okd (n d : Int) : Bool := nearB n && nearB d && decide (d ≠ 0)
def scN (n d : Int) : Int := if d < 0 then -n else n
def scD (d : Int) : Int := if d < 0 then -d else d
def sLo (n d : Int) : Int := if okd n d = true then rD (scN n d * 1099511627776) (scD d) else 0
def sHi (n d : Int) : Int := if okd n d = true then rU (scN n d * 1099511627776) (scD d) else 0
def sOk (n d : Int) : Bool := okd n d && rok (scN n d * 1099511627776) (scD d)
theorem s_bad {n d : Int} (h : okd n d = false) : sLo n d = 0 ∧ sHi n d = 0 ∧ sOk n d = false := by unfold sLo sHi sOk; rw [h]; exact ⟨rfl, rfl, rfl⟩
theorem s_good {n d : Int} (h : okd n d = true) : sLo n d = rD (scN n d * 1099511627776) (scD d) ∧ sHi n d = rU (scN n d * 1099511627776) (scD d) ∧ sOk n d = rok (scN n d * 1099511627776) (scD d) := by
  unfold sLo sHi sOk; rw [h]; exact ⟨rfl, rfl, rfl⟩
theorem okd_of {n d : Int} (a : nearB n = true) (b : nearB d = true) (c : d ≠ 0) : okd n d = true := by unfold okd; rw [a, b, decide_eq_true c]; rfl
theorem okd_bad {n d : Int} (h : (nearB n && nearB d) = false) : okd n d = false := by unfold okd; rw [h]; rfl
theorem okd_zero (n : Int) : okd n 0 = false := by unfold okd; rw [decide_eq_false (by decide), Bool.and_false]

set_option maxHeartbeats 1000000 in
theorem near_call (n d : Int) (b : Nat) (w : World) (h0 : w.cell? ⟨b, 0, none⟩ = some (.int .i64 n)) (h1 : w.cell? ⟨b, 1, none⟩ = some (.int .i64 d)) :
    Calls Try.prog 51 #[.slice (some ⟨b, 0, none⟩) 2 2] w fun e w' => e = .returned (.bool (nearB n && nearB d)) ∧ w = w' := by
  by_cases hn : nearB n = true
  · obtain ⟨n0, n1⟩ := nearB_parts hn
    by_cases hd : nearB d = true
    · obtain ⟨d0, d1⟩ := nearB_parts hd
      rw [hn, hd, Bool.and_true]
      clear hn hd
      go_enter Try.func51, Try.ntmps51
      go_wp2_with fail
      refine wp_loop_rounds 3 ?_
      iterate 4 all_goals (first | (rw [rounds_succ]; go_wp2) | skip)
      all_goals (first | omega | (go_ret; exact ⟨rfl, rfl⟩))
    · have hd : nearB d = false := by simpa using hd
      have d0 := of_decide_eq_false hd
      rw [hn, hd, Bool.and_false]
      clear hn hd
      by_cases d1 : d < -1099511627776
      · clear d0
        go_enter Try.func51, Try.ntmps51
        go_wp2_with fail
        refine wp_loop_rounds 3 ?_
        iterate 4 all_goals (first | (rw [rounds_succ]; go_wp2) | skip)
        all_goals (first | omega | (go_ret; exact ⟨rfl, rfl⟩))
      · have d2 : 1099511627776 < d := by omega
        have d3 : -1099511627776 ≤ d := by omega
        clear d0 d1
        go_enter Try.func51, Try.ntmps51
        go_wp2_with fail
        refine wp_loop_rounds 3 ?_
        iterate 4 all_goals (first | (rw [rounds_succ]; go_wp2) | skip)
        all_goals (first | omega | (go_ret; exact ⟨rfl, rfl⟩))
  · have hn : nearB n = false := by simpa using hn
    have n0 := of_decide_eq_false hn
    rw [hn, Bool.false_and]
    clear hn
    by_cases n1 : n < -1099511627776
    · clear n0
      go_enter Try.func51, Try.ntmps51
      go_wp2_with fail
      refine wp_loop_rounds 3 ?_
      iterate 4 all_goals (first | (rw [rounds_succ]; go_wp2) | skip)
      all_goals (first | omega | (go_ret; exact ⟨rfl, rfl⟩))
    · have n2 : 1099511627776 < n := by omega
      have n3 : -1099511627776 ≤ n := by omega
      clear n0 n1
      go_enter Try.func51, Try.ntmps51
      go_wp2_with fail
      refine wp_loop_rounds 3 ?_
      iterate 4 all_goals (first | (rw [rounds_succ]; go_wp2) | skip)
      all_goals (first | omega | (go_ret; exact ⟨rfl, rfl⟩))

set_option maxHeartbeats 1000000 in
theorem scaled_bad (n d : Int) (h : (nearB n && nearB d) = false) (w : World) : Calls Try.prog 35 #[.int .i64 n, .int .i64 d] w fun e w' => e = .returned (.tuple #[.int .i64 (0), .int .i64 (0), .bool (false)]) ∧ ∃ p, w' = more w p := by
  have NC := Lib.hid @(fun b w h0 h1 => h ▸ near_call n d b w h0 h1)
  clear h
  go_enter Try.func35, Try.ntmps35
  go_wp2_with (go_at_call 51; (with_reducible refine (NC.out _ _ ?h0 ?h1).mono ?_); (case h0 => simp); (case h1 => simp); rintro e w' ⟨rfl, rfl⟩)
  exact bodyPost_ret (v := .tuple #[.int .i64 (0), .int .i64 (0), .bool (false)]) (by simp [results, Try.results35, go_sem]) rfl ⟨rfl, ⟨[_], 0⟩, rfl⟩

set_option maxHeartbeats 1000000 in
theorem scaled_zero (n : Int) (h : (nearB n && nearB 0) = true) (w : World) : Calls Try.prog 35 #[.int .i64 n, .int .i64 0] w fun e w' => e = .returned (.tuple #[.int .i64 (0), .int .i64 (0), .bool (false)]) ∧ ∃ p, w' = more w p := by
  have NC := Lib.hid @(fun b w h0 h1 => h ▸ near_call n 0 b w h0 h1)
  clear h
  go_enter Try.func35, Try.ntmps35
  go_wp2_with (go_at_call 51; (with_reducible refine (NC.out _ _ ?h0 ?h1).mono ?_); (case h0 => simp); (case h1 => simp); rintro e w' ⟨rfl, rfl⟩)
  exact bodyPost_ret (v := .tuple #[.int .i64 (0), .int .i64 (0), .bool (false)]) (by simp [results, Try.results35, go_sem]) rfl ⟨rfl, ⟨[_], 0⟩, rfl⟩

set_option maxHeartbeats 1000000 in
theorem scaled_pos (n d : Int) (h1 : nearB n = true) (h2 : nearB d = true) (hd : 0 < d) (w : World) : Calls Try.prog 35 #[.int .i64 n, .int .i64 d] w fun e w' => e = .returned (.tuple #[.int .i64 (rD ((n) * 1099511627776) (d)), .int .i64 (rU ((n) * 1099511627776) (d)), .bool (rok ((n) * 1099511627776) (d))]) ∧ ∃ p, w' = more w p := by
  obtain ⟨n0, n1⟩ := nearB_parts h1
  obtain ⟨d0, d1⟩ := nearB_parts h2
  have h : (nearB n && nearB d) = true := by rw [h1, h2]; rfl
  have NC := Lib.hid @(fun b w h0 h1 => h ▸ near_call n d b w h0 h1)
  have hr := fun w => ratio_call (n) 1099511627776 (d) w (by omega) (by omega) (by omega) (by omega) (by omega) (by omega)
  have HR := Lib.hid @hr
  have hz : (d == 0) = false := beq_eq_false_iff_ne.2 (by omega)
  clear h h1 h2 hr
  go_enter Try.func35, Try.ntmps35
  go_wp2_with (first
    | (go_at_call 51; (with_reducible refine (NC.out _ _ ?h0 ?h1).mono ?_); (case h0 => simp); (case h1 => simp); rintro e w' ⟨rfl, rfl⟩)
    | (go_at_call 41; (with_reducible refine (HR.out _).mono ?_); rintro e w' ⟨rfl, k, rfl⟩))
  exact bodyPost_ret (v := .tuple #[.int .i64 (rD ((n) * 1099511627776) (d)), .int .i64 (rU ((n) * 1099511627776) (d)), .bool (rok ((n) * 1099511627776) (d))]) (by simp [results, Try.results35, go_sem]) rfl ⟨rfl, ⟨[_], _⟩, rfl⟩

set_option maxHeartbeats 1000000 in
theorem scaled_neg (n d : Int) (h1 : nearB n = true) (h2 : nearB d = true) (hd : d < 0) (w : World) : Calls Try.prog 35 #[.int .i64 n, .int .i64 d] w fun e w' => e = .returned (.tuple #[.int .i64 (rD ((-n) * 1099511627776) (-d)), .int .i64 (rU ((-n) * 1099511627776) (-d)), .bool (rok ((-n) * 1099511627776) (-d))]) ∧ ∃ p, w' = more w p := by
  obtain ⟨n0, n1⟩ := nearB_parts h1
  obtain ⟨d0, d1⟩ := nearB_parts h2
  have h : (nearB n && nearB d) = true := by rw [h1, h2]; rfl
  have NC := Lib.hid @(fun b w h0 h1 => h ▸ near_call n d b w h0 h1)
  have hr := fun w => ratio_call (-n) 1099511627776 (-d) w (by omega) (by omega) (by omega) (by omega) (by omega) (by omega)
  have HR := Lib.hid @hr
  have hz : (d == 0) = false := beq_eq_false_iff_ne.2 (by omega)
  clear h h1 h2 hr
  go_enter Try.func35, Try.ntmps35
  go_wp2_with (first
    | (go_at_call 51; (with_reducible refine (NC.out _ _ ?h0 ?h1).mono ?_); (case h0 => simp); (case h1 => simp); rintro e w' ⟨rfl, rfl⟩)
    | (go_at_call 41; (with_reducible refine (HR.out _).mono ?_); rintro e w' ⟨rfl, k, rfl⟩))
  exact bodyPost_ret (v := .tuple #[.int .i64 (rD ((-n) * 1099511627776) (-d)), .int .i64 (rU ((-n) * 1099511627776) (-d)), .bool (rok ((-n) * 1099511627776) (-d))]) (by simp [results, Try.results35, go_sem]) rfl ⟨rfl, ⟨[_], _⟩, rfl⟩

theorem scaled_call (n d : Int) (w : World) : Calls Try.prog 35 #[.int .i64 n, .int .i64 d] w fun e w' => e = .returned (.tuple #[.int .i64 (sLo n d), .int .i64 (sHi n d), .bool (sOk n d)]) ∧ ∃ p, w' = more w p := by
  by_cases h : (nearB n && nearB d) = true
  · by_cases hz : d = 0
    · subst hz
      obtain ⟨e1, e2, e3⟩ := s_bad (okd_zero n)
      rw [e1, e2, e3]
      exact scaled_zero n h w
    · have h' := h
      simp only [Bool.and_eq_true] at h'
      obtain ⟨e1, e2, e3⟩ := s_good (okd_of h'.1 h'.2 hz)
      rw [e1, e2, e3]
      unfold scN scD
      by_cases hn : d < 0
      · rw [if_pos hn, if_pos hn]; exact scaled_neg n d h'.1 h'.2 hn w
      · rw [if_neg hn, if_neg hn]; exact scaled_pos n d h'.1 h'.2 (by omega) w
  · have h : (nearB n && nearB d) = false := by simpa using h
    obtain ⟨e1, e2, e3⟩ := s_bad (okd_bad h)
    rw [e1, e2, e3]
    exact scaled_bad n d h w

set_option maxHeartbeats 1000000 in
theorem of_call (n d : Int) (w : World) : Calls Try.prog 32 #[.int .i64 n, .int .i64 d] w fun e w' => e = .returned (.tuple #[.agg #[.int .i64 (mkL (sLo n d) (sHi n d) (sOk n d)), .int .i64 (mkH (sLo n d) (sHi n d) (sOk n d))], .bool (mkB (sLo n d) (sHi n d) (sOk n d))]) ∧ ∃ p, w' = more w p := by
  have SC := Lib.hid @(fun w => scaled_call n d w)
  have MD := Lib.hid @(fun w => made_call (sLo n d) (sHi n d) (sOk n d) w)
  go_enter Try.func32, Try.ntmps32
  go_upto_region 1 with fail
  refine at_world (fun W => F1 w W) (f1_of w) ?_
  rintro W ⟨⟨k8, k9, k10, k11⟩, k12, k13, k14⟩
  have K := Lib.hid @k14
  clear k14
  have hmc := more_cell
  have hmh := more_heap
  have hmf := more_frozen
  refine at_world (fun W' => ∃ p, W' = more W p) ⟨⟨[], 0⟩, rfl⟩ ?_
  rintro _ ⟨p, rfl⟩
  go_wp2_with (first
    | (go_at_call 35; (with_reducible refine (calls_more (SC.out _)).mono ?_); rintro e w' ⟨rfl, q, rfl⟩)
    | (go_at_call 37; (with_reducible refine (calls_more (MD.out _)).mono ?_); rintro e w' ⟨rfl, q, rfl⟩))
  exact bodyPost_ret (v := .tuple #[.agg #[.int .i64 (mkL (sLo n d) (sHi n d) (sOk n d)), .int .i64 (mkH (sLo n d) (sHi n d) (sOk n d))], .bool (mkB (sLo n d) (sHi n d) (sOk n d))]) (by simp [results, Try.results32, go_sem, *]) rfl ⟨rfl, K.out _ _ _⟩

/-- whether an interval contains n / d -/
def ctB (xl xh n d : Int) : Bool := sOk n d && ivB xl xh && decide (xl ≤ sLo n d) && decide (sHi n d ≤ xh)

set_option maxHeartbeats 1000000 in
theorem ct_no (xl xh n d : Int) (hs : sOk n d = false) (w : World) : Calls Try.prog 12 #[.agg #[.int .i64 xl, .int .i64 xh], .int .i64 n, .int .i64 d] w fun e w' => e = .returned (.bool (false)) ∧ ∃ p, w' = more w p := by
  have sc := fun w => scaled_call n d w
  rw [hs] at sc
  have SC := Lib.hid @sc
  clear sc hs
  generalize sLo n d = D at *
  generalize sHi n d = H at *
  go_enter Try.func12, Try.ntmps12
  go_upto_region 1 with fail
  refine at_world (fun W => Iv2 W w.heap.size xl xh ∧ ∃ p, W = more w p) ⟨iv_of (at_new rfl), ⟨[_], 0⟩, rfl⟩ ?_
  rintro W ⟨⟨k0, k1, k2, k3⟩, K⟩
  have K := Lib.hid @K
  have hmc := more_cell
  have hmh := more_heap
  refine at_world (fun W' => ∃ p, W' = more W p) ⟨⟨[], 0⟩, rfl⟩ ?_
  rintro _ ⟨p, rfl⟩
  go_wp2_with (first
    | (go_at_call 35; (with_reducible refine (calls_more (SC.out _)).mono ?_); rintro e w' ⟨rfl, q, rfl⟩))
  go_ret
  exact ⟨rfl, more_to K.out ⟨_, rfl⟩⟩

set_option maxHeartbeats 1000000 in
theorem ct_bad (xl xh n d : Int) (hs : sOk n d = true) (hx : ivB xl xh = false) (w : World) : Calls Try.prog 12 #[.agg #[.int .i64 xl, .int .i64 xh], .int .i64 n, .int .i64 d] w fun e w' => e = .returned (.bool (false)) ∧ ∃ p, w' = more w p := by
  have sc := fun w => scaled_call n d w
  rw [hs] at sc
  have SC := Lib.hid @sc
  have vx := fun w => valid_call xl xh w
  rw [hx] at vx
  have VX := Lib.hid @vx
  clear vx hx
  clear sc hs
  generalize sLo n d = D at *
  generalize sHi n d = H at *
  go_enter Try.func12, Try.ntmps12
  go_upto_region 1 with fail
  refine at_world (fun W => Iv2 W w.heap.size xl xh ∧ ∃ p, W = more w p) ⟨iv_of (at_new rfl), ⟨[_], 0⟩, rfl⟩ ?_
  rintro W ⟨⟨k0, k1, k2, k3⟩, K⟩
  have K := Lib.hid @K
  have hmc := more_cell
  have hmh := more_heap
  refine at_world (fun W' => ∃ p, W' = more W p) ⟨⟨[], 0⟩, rfl⟩ ?_
  rintro _ ⟨p, rfl⟩
  go_wp2_with (first
    | (go_at_call 35; (with_reducible refine (calls_more (SC.out _)).mono ?_); rintro e w' ⟨rfl, q, rfl⟩)
    | (go_at_call 18; (with_reducible refine (calls_more_o (VX.out _)).mono ?_); rintro e w' ⟨rfl, q, rfl⟩))
  go_ret
  exact ⟨rfl, more_to K.out ⟨_, rfl⟩⟩

set_option maxHeartbeats 1000000 in
theorem ct_lo (xl xh n d : Int) (hs : sOk n d = true) (hx : ivB xl xh = true) (hl : decide (xl ≤ sLo n d) = false) (w : World) : Calls Try.prog 12 #[.agg #[.int .i64 xl, .int .i64 xh], .int .i64 n, .int .i64 d] w fun e w' => e = .returned (.bool (false)) ∧ ∃ p, w' = more w p := by
  have sc := fun w => scaled_call n d w
  rw [hs] at sc
  have SC := Lib.hid @sc
  have vx := fun w => valid_call xl xh w
  rw [hx] at vx
  have VX := Lib.hid @vx
  clear vx hx
  clear sc hs
  generalize sLo n d = D at *
  generalize sHi n d = H at *
  go_enter Try.func12, Try.ntmps12
  go_upto_region 1 with fail
  refine at_world (fun W => Iv2 W w.heap.size xl xh ∧ ∃ p, W = more w p) ⟨iv_of (at_new rfl), ⟨[_], 0⟩, rfl⟩ ?_
  rintro W ⟨⟨k0, k1, k2, k3⟩, K⟩
  have K := Lib.hid @K
  have hmc := more_cell
  have hmh := more_heap
  refine at_world (fun W' => ∃ p, W' = more W p) ⟨⟨[], 0⟩, rfl⟩ ?_
  rintro _ ⟨p, rfl⟩
  go_wp2_with (first
    | (go_at_call 35; (with_reducible refine (calls_more (SC.out _)).mono ?_); rintro e w' ⟨rfl, q, rfl⟩)
    | (go_at_call 18; (with_reducible refine (calls_more_o (VX.out _)).mono ?_); rintro e w' ⟨rfl, q, rfl⟩))
  go_ret
  exact ⟨rfl, more_to K.out ⟨_, rfl⟩⟩

set_option maxHeartbeats 1000000 in
theorem ct_hi (xl xh n d : Int) (hs : sOk n d = true) (hx : ivB xl xh = true) (hl : decide (xl ≤ sLo n d) = true) (w : World) : Calls Try.prog 12 #[.agg #[.int .i64 xl, .int .i64 xh], .int .i64 n, .int .i64 d] w fun e w' => e = .returned (.bool (decide (sHi n d ≤ xh))) ∧ ∃ p, w' = more w p := by
  have sc := fun w => scaled_call n d w
  rw [hs] at sc
  have SC := Lib.hid @sc
  have vx := fun w => valid_call xl xh w
  rw [hx] at vx
  have VX := Lib.hid @vx
  clear vx hx
  clear sc hs
  generalize sLo n d = D at *
  generalize sHi n d = H at *
  go_enter Try.func12, Try.ntmps12
  go_upto_region 1 with fail
  refine at_world (fun W => Iv2 W w.heap.size xl xh ∧ ∃ p, W = more w p) ⟨iv_of (at_new rfl), ⟨[_], 0⟩, rfl⟩ ?_
  rintro W ⟨⟨k0, k1, k2, k3⟩, K⟩
  have K := Lib.hid @K
  have hmc := more_cell
  have hmh := more_heap
  refine at_world (fun W' => ∃ p, W' = more W p) ⟨⟨[], 0⟩, rfl⟩ ?_
  rintro _ ⟨p, rfl⟩
  go_wp2_with (first
    | (go_at_call 35; (with_reducible refine (calls_more (SC.out _)).mono ?_); rintro e w' ⟨rfl, q, rfl⟩)
    | (go_at_call 18; (with_reducible refine (calls_more_o (VX.out _)).mono ?_); rintro e w' ⟨rfl, q, rfl⟩))
  go_ret
  exact ⟨rfl, more_to K.out ⟨_, rfl⟩⟩

theorem ct_call (xl xh n d : Int) (w : World) : Calls Try.prog 12 #[.agg #[.int .i64 xl, .int .i64 xh], .int .i64 n, .int .i64 d] w fun e w' => e = .returned (.bool (ctB xl xh n d)) ∧ ∃ p, w' = more w p := by
  unfold ctB
  by_cases hs : sOk n d = true
  · by_cases hx : ivB xl xh = true
    · by_cases hl : decide (xl ≤ sLo n d) = true
      · rw [hs, hx, hl]; simp only [Bool.true_and]; exact ct_hi xl xh n d hs hx hl w
      · have hl : decide (xl ≤ sLo n d) = false := by simpa using hl
        rw [hs, hx, hl]; simp only [Bool.true_and, Bool.false_and]; exact ct_lo xl xh n d hs hx hl w
    · have hx : ivB xl xh = false := by simpa using hx
      rw [hs, hx]; simp only [Bool.true_and, Bool.false_and]; exact ct_bad xl xh n d hs hx w
  · have hs : sOk n d = false := by simpa using hs
    rw [hs]; simp only [Bool.false_and]; exact ct_no xl xh n d hs w
end Go.Proofs.Ytdbemgjjahcabaa
