/- Contracts of Make and of the sanity check of layer 28. -/
import Derived.Test.YtdbemgjjahcabaaIvCt
import Derived.Deep.DeepCutAuto
namespace Go.Proofs.Ytdbemgjjahcabaa
open Go.RowKit
set_option linter.unusedVariables false

theorem at_ext {W W' : World} (h : Ext W W') {g : Nat} {v : Obj} (e : W.heap[g]? = some v) : W'.heap[g]? = some v := by
  obtain ⟨q, rfl⟩ := h
  exact at_more e
abbrev prO (a b : Int) : Obj := .cells #[.int .i64 a, .int .i64 b] 22
theorem pr_of {W : World} {g : Nat} {a b : Int} (e : W.heap[g]? = some (prO a b)) : g < W.heap.size ∧ W.cell? ⟨g, 0, none⟩ = some (.int .i64 a) ∧ W.cell? ⟨g, 1, none⟩ = some (.int .i64 b) ∧ W.heap[g]? = some (prO a b) := by
  have hg : g < W.heap.size := by
    rcases Nat.lt_or_ge g W.heap.size with h1 | h1
    · exact h1
    · simp [h1] at e
  refine ⟨hg, ?_, ?_, e⟩ <;> simp [World.cell?, e]
theorem wrap_tdiv4 {n : Int} (h0 : -9223372036854775808 ≤ n) (h1 : n ≤ 9223372036854775807) : wrap64 (n.tdiv 4) = n.tdiv 4 := by
  have e := Int.mul_tdiv_add_tmod n 4
  have b := tmod_bounds n 4 (by omega)
  exact IntWalk.wrap64_in _ (by omega)
/-- what Make makes -/
def gA (n0 n1 : Int) : Int := if n1 % 4 = 3 then n0 % 40 - 20 else n0 % 4398046511104 - 2199023255552
def gW (n1 : Int) : Int := if n1 % 4 = 1 then n1.tdiv 4 % 100 else if n1 % 4 = 2 then n1.tdiv 4 % 2199023255552 else if n1 % 4 = 3 then n1.tdiv 4 % 40 else 0
theorem g_bounds (n0 n1 : Int) : -2199023255552 ≤ gA n0 n1 ∧ gA n0 n1 ≤ 2199023255551 ∧ 0 ≤ gW n1 ∧ gW n1 ≤ 2199023255551 := by
  have a0 : 0 ≤ n1.tdiv 4 % 100 := Int.emod_nonneg _ (by omega)
  have a1 : n1.tdiv 4 % 100 < 100 := Int.emod_lt_of_pos _ (by omega)
  have b0 : 0 ≤ n1.tdiv 4 % 2199023255552 := Int.emod_nonneg _ (by omega)
  have b1 : n1.tdiv 4 % 2199023255552 < 2199023255552 := Int.emod_lt_of_pos _ (by omega)
  have c0 : 0 ≤ n1.tdiv 4 % 40 := Int.emod_nonneg _ (by omega)
  have c1 : n1.tdiv 4 % 40 < 40 := Int.emod_lt_of_pos _ (by omega)
  unfold gA gW
  repeat' split
  all_goals omega
theorem g_valid (n0 n1 : Int) : ivB (gA n0 n1) (gA n0 n1 + gW n1) = true := by
  obtain ⟨h1, h2, h3, h4⟩ := g_bounds n0 n1
  exact decide_eq_true (by omega)

set_option maxHeartbeats 1000000 in
theorem make_0 (n0 n1 : Int) (b0 : -9223372036854775808 ≤ n1) (b1 : n1 ≤ 9223372036854775807) (h : n1 % 4 = 0) (w : World) : Calls Try.prog 9 #[.agg #[.int .i64 n0, .int .i64 n1]] w fun e w' => e = .returned (.agg #[.int .i64 (n0 % 4398046511104 - 2199023255552), .int .i64 (n0 % 4398046511104 - 2199023255552 + (0))]) ∧ ∃ p, w' = more w p := by
  have hw := wrap_tdiv4 b0 b1
  go_enter Try.func9, Try.ntmps9
  go_wp2_with (go_at_call 10; refine (mod_call _ _ _ (by omega) (by omega)).mono ?_; rintro e w' ⟨rfl, rfl⟩)
  exact bodyPost_ret (v := .agg #[.int .i64 (n0 % 4398046511104 - 2199023255552), .int .i64 (n0 % 4398046511104 - 2199023255552 + (0))]) (by simp [results, Try.results9, go_sem]) rfl ⟨rfl, ⟨[_, _], 0⟩, rfl⟩

set_option maxHeartbeats 1000000 in
theorem make_1 (n0 n1 : Int) (b0 : -9223372036854775808 ≤ n1) (b1 : n1 ≤ 9223372036854775807) (h : n1 % 4 = 1) (w : World) : Calls Try.prog 9 #[.agg #[.int .i64 n0, .int .i64 n1]] w fun e w' => e = .returned (.agg #[.int .i64 (n0 % 4398046511104 - 2199023255552), .int .i64 (n0 % 4398046511104 - 2199023255552 + (n1.tdiv 4 % 100))]) ∧ ∃ p, w' = more w p := by
  have c0 : 0 ≤ n1.tdiv 4 % 100 := Int.emod_nonneg _ (by omega)
  have c1 : n1.tdiv 4 % 100 < 100 := Int.emod_lt_of_pos _ (by omega)
  have hw := wrap_tdiv4 b0 b1
  go_enter Try.func9, Try.ntmps9
  go_wp2_with (go_at_call 10; refine (mod_call _ _ _ (by omega) (by omega)).mono ?_; rintro e w' ⟨rfl, rfl⟩)
  exact bodyPost_ret (v := .agg #[.int .i64 (n0 % 4398046511104 - 2199023255552), .int .i64 (n0 % 4398046511104 - 2199023255552 + (n1.tdiv 4 % 100))]) (by simp [results, Try.results9, go_sem]) rfl ⟨rfl, ⟨[_, _], 0⟩, rfl⟩

set_option maxHeartbeats 1000000 in
theorem make_2 (n0 n1 : Int) (b0 : -9223372036854775808 ≤ n1) (b1 : n1 ≤ 9223372036854775807) (h : n1 % 4 = 2) (w : World) : Calls Try.prog 9 #[.agg #[.int .i64 n0, .int .i64 n1]] w fun e w' => e = .returned (.agg #[.int .i64 (n0 % 4398046511104 - 2199023255552), .int .i64 (n0 % 4398046511104 - 2199023255552 + (n1.tdiv 4 % 2199023255552))]) ∧ ∃ p, w' = more w p := by
  have c0 : 0 ≤ n1.tdiv 4 % 2199023255552 := Int.emod_nonneg _ (by omega)
  have c1 : n1.tdiv 4 % 2199023255552 < 2199023255552 := Int.emod_lt_of_pos _ (by omega)
  have hw := wrap_tdiv4 b0 b1
  go_enter Try.func9, Try.ntmps9
  go_wp2_with (go_at_call 10; refine (mod_call _ _ _ (by omega) (by omega)).mono ?_; rintro e w' ⟨rfl, rfl⟩)
  exact bodyPost_ret (v := .agg #[.int .i64 (n0 % 4398046511104 - 2199023255552), .int .i64 (n0 % 4398046511104 - 2199023255552 + (n1.tdiv 4 % 2199023255552))]) (by simp [results, Try.results9, go_sem]) rfl ⟨rfl, ⟨[_, _], 0⟩, rfl⟩

set_option maxHeartbeats 1000000 in
theorem make_3 (n0 n1 : Int) (b0 : -9223372036854775808 ≤ n1) (b1 : n1 ≤ 9223372036854775807) (h : n1 % 4 = 3) (w : World) : Calls Try.prog 9 #[.agg #[.int .i64 n0, .int .i64 n1]] w fun e w' => e = .returned (.agg #[.int .i64 (n0 % 40 - 20), .int .i64 (n0 % 40 - 20 + (n1.tdiv 4 % 40))]) ∧ ∃ p, w' = more w p := by
  have c0 : 0 ≤ n1.tdiv 4 % 40 := Int.emod_nonneg _ (by omega)
  have c1 : n1.tdiv 4 % 40 < 40 := Int.emod_lt_of_pos _ (by omega)
  have hw := wrap_tdiv4 b0 b1
  go_enter Try.func9, Try.ntmps9
  go_wp2_with (go_at_call 10; refine (mod_call _ _ _ (by omega) (by omega)).mono ?_; rintro e w' ⟨rfl, rfl⟩)
  exact bodyPost_ret (v := .agg #[.int .i64 (n0 % 40 - 20), .int .i64 (n0 % 40 - 20 + (n1.tdiv 4 % 40))]) (by simp [results, Try.results9, go_sem]) rfl ⟨rfl, ⟨[_, _], 0⟩, rfl⟩

theorem make_call (n0 n1 : Int) (b0 : -9223372036854775808 ≤ n1) (b1 : n1 ≤ 9223372036854775807) (w : World) : Calls Try.prog 9 #[.agg #[.int .i64 n0, .int .i64 n1]] w fun e w' => e = .returned (.agg #[.int .i64 (gA n0 n1), .int .i64 (gA n0 n1 + gW n1)]) ∧ ∃ p, w' = more w p := by
  unfold gA gW
  by_cases h1 : n1 % 4 = 1
  · rw [if_pos h1, if_neg (by omega)]; exact make_1 n0 n1 b0 b1 h1 w
  · rw [if_neg h1]
    by_cases h2 : n1 % 4 = 2
    · rw [if_pos h2, if_neg (by omega)]; exact make_2 n0 n1 b0 b1 h2 w
    · rw [if_neg h2]
      by_cases h3 : n1 % 4 = 3
      · rw [if_pos h3, if_pos h3]; exact make_3 n0 n1 b0 b1 h3 w
      · rw [if_neg h3, if_neg h3]; exact make_0 n0 n1 b0 b1 (by omega) w

theorem eql_iv (a b c d : Int) (w : World) : (binOp .eql 24 (.agg #[.int .i64 a, .int .i64 b]) (.agg #[.int .i64 c, .int .i64 d])).run Try.prog w = .ok (.bool (a == c && b == d)) w := by
  have h1 : ∀ (a b : Int) (d : Nat), (Op.equalIn (d + 1) 2 (.int .i64 a) (.int .i64 b)).run Try.prog w = .ok (a == b) w := fun a b d => run_equalIn_int w d 2 .i64 .i64 a b Try.underlying2
  have p0 : ∀ a b : Int, (part 2 #[.int .i64 a, .int .i64 b] 0).run Try.prog w = .ok (.int .i64 a) w := fun _ _ => by kernel_rfl
  have p1 : ∀ a b : Int, (part 2 #[.int .i64 a, .int .i64 b] 1).run Try.prog w = .ok (.int .i64 b) w := fun _ _ => by kernel_rfl
  rw [run_eql_struct, show (10000 : Nat) = 9999 + 1 from rfl, run_equalIn_struct w 9999 24 _ _ (by kernel_rfl) (by kernel_rfl)]
  simp only [Program.fieldsOf, Try.underlying24, Op.eqFields]
  by_cases e1 : a = c <;> by_cases e2 : b = d <;> simp [p0, p1, h1 _ _ 9998, e1, e2]
theorem eql_iv_same (a b : Int) (w : World) : (binOp .eql 24 (.agg #[.int .i64 a, .int .i64 b]) (.agg #[.int .i64 a, .int .i64 b])).run Try.prog w = .ok (.bool true) w := by
  rw [eql_iv]; simp
theorem neq_iv_same (a b : Int) (w : World) : (binOp .neq 24 (.agg #[.int .i64 a, .int .i64 b]) (.agg #[.int .i64 a, .int .i64 b])).run Try.prog w = .ok (.bool false) w := by
  have h1 : ∀ (a b : Int) (d : Nat), (Op.equalIn (d + 1) 2 (.int .i64 a) (.int .i64 b)).run Try.prog w = .ok (a == b) w := fun a b d => run_equalIn_int w d 2 .i64 .i64 a b Try.underlying2
  have p0 : ∀ a b : Int, (part 2 #[.int .i64 a, .int .i64 b] 0).run Try.prog w = .ok (.int .i64 a) w := fun _ _ => by kernel_rfl
  have p1 : ∀ a b : Int, (part 2 #[.int .i64 a, .int .i64 b] 1).run Try.prog w = .ok (.int .i64 b) w := fun _ _ => by kernel_rfl
  rw [run_neq_struct, show (10000 : Nat) = 9999 + 1 from rfl, run_equalIn_struct w 9999 24 _ _ (by kernel_rfl) (by kernel_rfl)]
  simp only [Program.fieldsOf, Try.underlying24, Op.eqFields]
  simp [p0, p1, h1 _ _ 9998]

theorem isq_at {N r : Int} (h : Root N r) : isq N = r := (Classical.epsilon_spec (⟨r, h⟩ : ∃ r, Root N r)).unique h
theorem awake_root : isq (274877906944 * 1099511627776) = 549755813888 := isq_at ⟨by decide, by decide, by decide, by decide⟩
theorem awake_of2 (w : World) : Calls Try.prog 32 #[.int .i64 1, .int .i64 2] w fun e w' => e = .returned (.tuple #[.agg #[.int .i64 (549755813888), .int .i64 (549755813888)], .bool (true)]) ∧ ∃ p, w' = more w p := of_call 1 2 w
theorem awake_of3 (w : World) : Calls Try.prog 32 #[.int .i64 1, .int .i64 3] w fun e w' => e = .returned (.tuple #[.agg #[.int .i64 (366503875925), .int .i64 (366503875926)], .bool (true)]) ∧ ∃ p, w' = more w p := of_call 1 3 w
theorem awake_sqrt (w : World) : Calls Try.prog 27 #[.agg #[.int .i64 274877906944, .int .i64 274877906944]] w fun e w' => e = .returned (.tuple #[.agg #[.int .i64 (549755813888), .int .i64 (549755813888)], .bool (true)]) ∧ ∃ p, w' = more w p := by
  have h := ivSqrt_call 274877906944 274877906944 w
  have e : csq (274877906944 * 1099511627776) = 549755813888 := by unfold csq; rw [awake_root]; rfl
  rw [e, awake_root] at h
  exact h
theorem awake_ct (w : World) : Calls Try.prog 12 #[.agg #[.int .i64 366503875925, .int .i64 366503875926], .int .i64 1, .int .i64 3] w fun e w' => e = .returned (.bool true) ∧ ∃ p, w' = more w p := ct_call 366503875925 366503875926 1 3 w
set_option maxHeartbeats 2000000 in
theorem awake_call (w : World) : Calls Try.prog 11 #[] w fun e w' => e = .returned (.bool true) ∧ ∃ p, w' = more w p := by
  have he := eql_iv_same
  have hmc := more_cell
  have hmh := more_heap
  go_enter Try.func11, Try.ntmps11
  go_upto_region 1 with fail
  go_cut [1, 2] (fun s1 s2 Z => ∃ g : Nat, s1 = .pointer (some ⟨g, 0, none⟩) ∧ s2 = .bool true ∧ Ext w Z ∧ Z.heap[g]? = some (ivO (549755813888) (549755813888)))
  case first =>
    go_wp2_with (go_at_call 32; (with_reducible refine (awake_of2 _).mono ?_); rintro e w' ⟨rfl, q, rfl⟩)
    go_meet
    refine ⟨_, rfl, rfl, ?_, ?_⟩
    · repeat (first | exact Ext.refl _ | refine Ext.mored ?_ _ | refine Ext.alloc ?_ _)
    · refine at_new ?_; rfl
  case rest =>
    obtain ⟨g1, rfl, rfl, hX, e1⟩ := hcut
    have hE := hX
    clear hX
    go_upto_region 2 with fail
    go_cut [3, 4] (fun s3 s4 Z => ∃ g : Nat, s3 = .pointer (some ⟨g, 0, none⟩) ∧ s4 = .bool true ∧ Ext wc Z ∧ Z.heap[g]? = some (ivO (366503875925) (366503875926)))
    case first =>
      go_wp2_with (go_at_call 32; (with_reducible refine (awake_of3 _).mono ?_); rintro e w' ⟨rfl, q, rfl⟩)
      go_meet
      refine ⟨_, rfl, rfl, ?_, ?_⟩
      · repeat (first | exact Ext.refl _ | refine Ext.mored ?_ _ | refine Ext.alloc ?_ _)
      · refine at_new ?_; rfl
    case rest =>
      obtain ⟨g3, rfl, rfl, hX, e3⟩ := hcut
      have hE := hE.trans hX
      have e1 := at_ext hX e1
      clear hX
      go_upto_region 3 with fail
      go_cut [5, 6] (fun s5 s6 Z => ∃ g : Nat, s5 = .pointer (some ⟨g, 0, none⟩) ∧ s6 = .bool true ∧ Ext wc Z ∧ Z.heap[g]? = some (ivO (549755813888) (549755813888)))
      case first =>
        go_wp2_with (go_at_call 27; (with_reducible refine (awake_sqrt _).mono ?_); rintro e w' ⟨rfl, q, rfl⟩)
        go_meet
        refine ⟨_, rfl, rfl, ?_, ?_⟩
        · repeat (first | exact Ext.refl _ | refine Ext.mored ?_ _ | refine Ext.alloc ?_ _)
        · refine at_new ?_; rfl
      case rest =>
        obtain ⟨g5, rfl, rfl, hX, e5⟩ := hcut
        have hE := hE.trans hX
        have e1 := at_ext hX e1
        have e3 := at_ext hX e3
        clear hX
        obtain ⟨a0, a1, a2, a3⟩ := iv_of e1
        obtain ⟨b0, b1, b2, b3⟩ := iv_of e3
        obtain ⟨c0, c1, c2, c3⟩ := iv_of e5
        replace hE := Lib.hid hE
        go_wp2_with (go_at_call 12; (with_reducible refine (awake_ct _).mono ?_); rintro e w' ⟨rfl, q, rfl⟩)
        go_ret
        exact ⟨rfl, hE.out.mored _⟩
end Go.Proofs.Ytdbemgjjahcabaa
