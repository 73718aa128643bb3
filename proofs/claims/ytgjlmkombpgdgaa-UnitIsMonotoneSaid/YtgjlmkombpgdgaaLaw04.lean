/- The walks of the statements of layer 4. -/
import Derived.Test.YtgjlmkombpgdgaaUnit5
namespace Go.Proofs.Ytgjlmkombpgdgaa
open Go.RowKit FL
set_option linter.unusedVariables false

theorem wf_lt {b : Nat} (h : (Lit.float .f64 b).wf = true) : b < 18446744073709551616 := by
  simp [Lit.wf] at h; exact h
theorem nat_of {a : Int} (h : 0 ≤ a) : ∃ n : Nat, a = n := ⟨a.toNat, by omega⟩
theorem floatBits_lt {op : BinOp} {x y r : Nat} (h : floatBits op .f64 x y = some r) : r < 18446744073709551616 := wf_lt (floatBits_wf h)
abbrev FFC (F : FuncId) (b m : Nat) (A : Int) (P : Bool) : Prop := ∀ w, Calls Try.prog F #[.float .f64 b, .int .u16 m] w fun e w' => e = .returned (.tuple #[.int .u16 A, .bool P]) ∧ ∃ p, w' = more w p
theorem ffc {b m : Nat} (hb : b < 18446744073709551616) (hm : m ≤ 65535) : ∃ (A : Int) (P : Bool), FFC 12 b m A P ∧ FFC 13 b m A P :=
  ⟨_, _, fun w => ff_call b m w hb hm, fun w => refFf_call b m w hb hm⟩
theorem wrap_nat (a : Int) : (IntKind.u64.wrap a).toNat < 18446744073709551616 := by rw [IntKind.wrap_u64]; omega

set_option maxHeartbeats 2000000 in
set_option maxRecDepth 100000 in
theorem unitFromFloatAgrees_walk (x : Nat) (m n k : Int) (w : World) (hx : (Lit.float .f64 x).wf = true) (m0 : 0 ≤ m) (m1 : m ≤ 65535) (n0 : -9223372036854775808 ≤ n) (n1 : n ≤ 9223372036854775807) (k0 : 0 ≤ k) (k1 : k ≤ 18446744073709551615) :
    Calls Try.prog 3 #[.float .f64 x, .int .u16 m, .int .i64 n, .int .u64 k] w fun e w' => e = .returned (.bool true) ∧ Below w.heap.size w w' := by
  obtain ⟨m, rfl⟩ := nat_of m0
  have hmx := max_call n
  obtain ⟨u, hu⟩ : ∃ u : Nat, gmax n = u ∧ 1 ≤ u ∧ u ≤ 65535 := by rcases gmax_cases n with h | h <;> rw [h] <;> exact ⟨_, rfl, by decide, by decide⟩
  obtain ⟨hu, u0, u1⟩ := hu
  rw [hu] at hmx
  have hmo := fun w => mod_call n ((u : Int) + 1) w (by omega) (by omega)
  obtain ⟨v, hv⟩ : ∃ v : Nat, n % ((u : Int) + 1) = v ∧ v ≤ 65535 := ⟨(n % ((u : Int) + 1)).toNat, by have := Int.emod_nonneg n (show (u : Int) + 1 ≠ 0 by omega); omega, by have := Int.emod_lt_of_pos n (show 0 < (u : Int) + 1 by omega); omega⟩
  obtain ⟨hv, v1⟩ := hv
  rw [hv] at hmo
  obtain ⟨r, hr, hrn⟩ := add_half v1
  obtain ⟨s, hs⟩ := quo_some hrn u1 u0
  have o1 : ∀ t w, (binOp .add t (.float .f64 (floatOfInt .f64 (v : Int))) (.float .f64 4602678819172646912)).run Try.prog w = .ok (.float .f64 r) w := fun t w => run_float_arith w .add t .f64 _ _ r hr
  have o2 : ∀ t w, (binOp .quo t (.float .f64 r) (.float .f64 (floatOfInt .f64 (u : Int)))).run Try.prog w = .ok (.float .f64 s) w := fun t w => run_float_arith w .quo t .f64 _ _ s hs
  have b1 := bits_run s
  have HMX := Lib.hid @hmx
  have HMO := Lib.hid @hmo
  clear hmx hmo hu hv hr hs hrn
  obtain ⟨A, P, h1, h2⟩ := ffc (wf_lt hx) (show m ≤ 65535 by omega)
  obtain ⟨C, R, h3, h4⟩ := ffc (wrap_nat (IntKind.u64.wrap ((s : Int) + k % 3) - 1)) u1
  obtain ⟨E, T, h5, h6⟩ := ffc (show k.toNat < 18446744073709551616 by omega) u1
  have b2 := frombits_run (IntKind.u64.wrap (IntKind.u64.wrap ((s : Int) + k % 3) - 1))
  generalize (IntKind.u64.wrap (IntKind.u64.wrap ((s : Int) + k % 3) - 1)).toNat = y at *
  have b3 := frombits_run k
  generalize k.toNat = z at *
  have H1 := Lib.hid @h1
  have H2 := Lib.hid @h2
  have H3 := Lib.hid @h3
  have H4 := Lib.hid @h4
  have H5 := Lib.hid @h5
  have H6 := Lib.hid @h6
  clear h1 h2 h3 h4 h5 h6
  go_enter Try.func3, Try.ntmps3
  go_wp2_with (first
    | (go_at_call 8; (with_reducible refine (HMX.out _).mono ?_); rintro e w' ⟨rfl, rfl⟩)
    | (go_at_call 9; (with_reducible refine (HMO.out _).mono ?_); rintro e w' ⟨rfl, rfl⟩)
    | (go_at_call 12; first | ((with_reducible refine (H1.out _).mono ?_); rintro e w' ⟨rfl, p, rfl⟩) | ((with_reducible refine (H3.out _).mono ?_); rintro e w' ⟨rfl, p, rfl⟩) | ((with_reducible refine (H5.out _).mono ?_); rintro e w' ⟨rfl, p, rfl⟩))
    | (go_at_call 13; first | ((with_reducible refine (H2.out _).mono ?_); rintro e w' ⟨rfl, p, rfl⟩) | ((with_reducible refine (H4.out _).mono ?_); rintro e w' ⟨rfl, p, rfl⟩) | ((with_reducible refine (H6.out _).mono ?_); rintro e w' ⟨rfl, p, rfl⟩))
    | (go_at_call 14; (with_reducible refine (awake04_call _).mono ?_); rintro e w' ⟨rfl, p, rfl⟩))
  go_ret
  exact ⟨rfl, (((((((Ext.refl w).mored _).mored _).mored _).mored _).mored _).mored _ |>.mored _).below'⟩

set_option maxHeartbeats 2000000 in
theorem unitToFloatAgrees_walk (v u : Int) (w : World) (v0 : 0 ≤ v) (v1 : v ≤ 65535) (u0 : 0 ≤ u) (u1 : u ≤ 65535) :
    Calls Try.prog 4 #[.int .u16 v, .int .u16 u] w fun e w' => e = .returned (.bool true) ∧ Below w.heap.size w w' := by
  obtain ⟨v, rfl⟩ := nat_of v0
  obtain ⟨u, rfl⟩ := nat_of u0
  obtain ⟨x, hx1, hx0⟩ : ∃ x : Nat, (tfOk v u = true → floatBits .quo .f64 (floatOfInt .f64 (v : Int)) (floatOfInt .f64 (u : Int)) = some x) ∧ (tfOk v u = false → x = 0) := by
    cases h : tfOk v u
    · exact ⟨0, (by simp), fun _ => rfl⟩
    · obtain ⟨a, b⟩ := tf_no h
      obtain ⟨x, e, _⟩ := trip a (by omega : u ≤ 65535) b
      exact ⟨x, fun _ => e, by simp⟩
  have h1 := fun w => toFloat_call v u x w (by omega) (by omega) hx1 hx0
  have h2 := fun w => refToFloat_call v u x w (by omega) (by omega) hx1 hx0
  clear hx1
  have b1 := bits_run x
  cases hk : tfOk v u
  · obtain rfl := hx0 hk
    rw [hk] at h1 h2
    have H1 := Lib.hid @h1
    have H2 := Lib.hid @h2
    clear h1 h2 hx0 hk
    have b1' : ∀ w, (callFunc 11 #[.float .f64 0]).run Try.prog w = .ok (.value (.int .u64 0)) w := bits_run 0
    clear b1
    go_enter Try.func4, Try.ntmps4
    go_wp2_with (first
      | (go_at_call 15; (with_reducible refine (H1.out _).mono ?_); rintro e w' ⟨rfl, rfl⟩)
      | (go_at_call 16; (with_reducible refine (H2.out _).mono ?_); rintro e w' ⟨rfl, rfl⟩)
      | (go_at_call 14; (with_reducible refine (awake04_call _).mono ?_); rintro e w' ⟨rfl, p, rfl⟩))
    go_ret
    exact ⟨rfl, ((Ext.refl w).mored _).below'⟩
  · rw [hk] at h1 h2
    have H1 := Lib.hid @h1
    have H2 := Lib.hid @h2
    clear h1 h2 hx0 hk
    go_enter Try.func4, Try.ntmps4
    go_wp2_with (first
      | (go_at_call 15; (with_reducible refine (H1.out _).mono ?_); rintro e w' ⟨rfl, rfl⟩)
      | (go_at_call 16; (with_reducible refine (H2.out _).mono ?_); rintro e w' ⟨rfl, rfl⟩)
      | (go_at_call 14; (with_reducible refine (awake04_call _).mono ?_); rintro e w' ⟨rfl, p, rfl⟩))
    go_ret
    exact ⟨rfl, ((Ext.refl w).mored _).below'⟩

set_option maxHeartbeats 2000000 in
theorem unitRoundTrip_walk (v u : Int) (w : World) (v0 : 0 ≤ v) (v1 : v ≤ 65535) (u0 : 0 ≤ u) (u1 : u ≤ 65535) :
    Calls Try.prog 5 #[.int .u16 v, .int .u16 u] w fun e w' => e = .returned (.bool true) ∧ Below w.heap.size w w' := by
  obtain ⟨u, rfl⟩ := nat_of u0
  by_cases hz : u = 0
  · subst hz
    go_enter Try.func5, Try.ntmps5
    go_wp2_with (go_at_call 14; (with_reducible refine (awake04_call _).mono ?_); rintro e w' ⟨rfl, p, rfl⟩)
    go_ret
    exact ⟨rfl, ((Ext.refl w).mored _).below'⟩
  · have hz' : ((u : Int) == 0) = false := beq_eq_false_iff_ne.2 (by omega)
    have hmo := fun w => mod_call v ((u : Int) + 1) w (by omega) (by omega)
    obtain ⟨t, ht, t1⟩ : ∃ t : Nat, v % ((u : Int) + 1) = t ∧ t ≤ u := ⟨(v % ((u : Int) + 1)).toNat, by have := Int.emod_nonneg v (show (u : Int) + 1 ≠ 0 by omega); omega, by have := Int.emod_lt_of_pos v (show 0 < (u : Int) + 1 by omega); omega⟩
    rw [ht] at hmo
    obtain ⟨x, e1, e2, e3, e4, e5, e6⟩ := trip t1 (by omega : u ≤ 65535) (by omega)
    have hk := tf_ok t1 (by omega)
    have h1 := fun w => toFloat_call t u x w (by omega) (by omega) (fun _ => e1) (fun h => by rw [hk] at h; cases h)
    have hxl : x < 18446744073709551616 := floatBits_lt e1
    have h2 := fun w => ff_call x u w hxl (by omega)
    rw [hk] at h1
    rw [e3, e2] at h2
    have o1 : (FloatKind.f64.format.order x 0 == some .gt || FloatKind.f64.format.order x 0 == some .eq) = true := by
      have := order_ge x 0
      rw [e2, isn_zero, sv_zero, decide_eq_true e4] at this
      exact this
    have o2 : (FloatKind.f64.format.order x 4607182418800017408 == some .lt || FloatKind.f64.format.order x 4607182418800017408 == some .eq) = true := by
      have := order_le x 0x3FF0000000000000
      rw [e2, isn_one, sv_one, decide_eq_true e5] at this
      exact this
    have HM := Lib.hid @hmo
    have H1 := Lib.hid @h1
    have H2 := Lib.hid @h2
    clear hmo h1 h2 e1 e2 e3 e4 e5 e6 hk ht hz
    have t2 : (t : Int) ≤ 65535 := by omega
    go_enter Try.func5, Try.ntmps5
    go_wp2_with (first
      | (go_at_call 9; (with_reducible refine (HM.out _).mono ?_); rintro e w' ⟨rfl, rfl⟩)
      | (go_at_call 15; (with_reducible refine (H1.out _).mono ?_); rintro e w' ⟨rfl, rfl⟩)
      | (go_at_call 12; (with_reducible refine (H2.out _).mono ?_); rintro e w' ⟨rfl, p, rfl⟩)
      | (go_at_call 14; (with_reducible refine (awake04_call _).mono ?_); rintro e w' ⟨rfl, p, rfl⟩))
    go_ret
    exact ⟨rfl, (((Ext.refl w).mored _).mored _).below'⟩

theorem o_eq (b : Nat) : (FloatKind.f64.format.order b b == some .eq) = !isn b := order_self b
theorem o_gt {b c : Nat} (hb : isn b = false) (hc : isn c = false) : (FloatKind.f64.format.order b c == some .gt) = decide (sv c < sv b) := by
  have := order_gt b c
  rw [hb, hc] at this
  exact this
theorem o_lt {b c : Nat} (hb : isn b = false) (hc : isn c = false) : (FloatKind.f64.format.order b c == some .lt) = decide (sv b < sv c) := by
  have := order_lt b c
  rw [hb, hc] at this
  exact this

set_option maxHeartbeats 2000000 in
theorem unitIsMonotone_walk (x y : Nat) (u : Int) (w : World) (hx : (Lit.float .f64 x).wf = true) (hy : (Lit.float .f64 y).wf = true) (u0 : 0 ≤ u) (u1 : u ≤ 65535) :
    Calls Try.prog 6 #[.float .f64 x, .float .f64 y, .int .u16 u] w fun e w' => e = .returned (.bool true) ∧ Below w.heap.size w w' := by
  obtain ⟨u, rfl⟩ := nat_of u0
  have h1 := fun w => ff_call x u w (wf_lt hx) (by omega)
  have h2 := fun w => ff_call y u w (wf_lt hy) (by omega)
  have o1 := o_eq x
  have o2 := o_eq y
  cases k1 : isn x
  · cases k2 : isn y
    · have o3 := o_gt k1 k2
      have o4 := o_lt k1 k2
      have m1 : sv x ≤ sv y → ((ff x u : Nat) : Int) ≤ (ff y u : Nat) := fun h => by have := ff_mono u k1 k2 h; omega
      have m2 : sv y ≤ sv x → ((ff y u : Nat) : Int) ≤ (ff x u : Nat) := fun h => by have := ff_mono u k2 k1 h; omega
      rw [k1] at h1
      rw [k2] at h2
      generalize ((ff x u : Nat) : Int) = A at *
      generalize ((ff y u : Nat) : Int) = B at *
      have H1 := Lib.hid @h1
      have H2 := Lib.hid @h2
      clear h1 h2 o1 o2 k1 k2 hx hy
      by_cases c1 : sv x < sv y
      · rw [decide_eq_false (by omega)] at o3
        rw [decide_eq_true c1] at o4
        have m := m1 (by omega)
        clear m1 m2 c1
        go_enter Try.func6, Try.ntmps6
        go_wp2_with (first
          | (go_at_call 12; first | ((with_reducible refine (H1.out _).mono ?_); rintro e w' ⟨rfl, p, rfl⟩) | ((with_reducible refine (H2.out _).mono ?_); rintro e w' ⟨rfl, p, rfl⟩))
          | (go_at_call 14; (with_reducible refine (awake04_call _).mono ?_); rintro e w' ⟨rfl, p, rfl⟩))
        go_ret
        exact ⟨rfl, ((((Ext.refl w).mored _).mored _).mored _).below'⟩
      · by_cases c2 : sv y < sv x
        · rw [decide_eq_true c2] at o3
          rw [decide_eq_false c1] at o4
          have m := m2 (by omega)
          clear m1 m2 c1 c2
          go_enter Try.func6, Try.ntmps6
          go_wp2_with (first
            | (go_at_call 12; first | ((with_reducible refine (H1.out _).mono ?_); rintro e w' ⟨rfl, p, rfl⟩) | ((with_reducible refine (H2.out _).mono ?_); rintro e w' ⟨rfl, p, rfl⟩))
            | (go_at_call 14; (with_reducible refine (awake04_call _).mono ?_); rintro e w' ⟨rfl, p, rfl⟩))
          go_ret
          exact ⟨rfl, ((((Ext.refl w).mored _).mored _).mored _).below'⟩
        · rw [decide_eq_false c2] at o3
          rw [decide_eq_false c1] at o4
          have m := m1 (by omega)
          have m' := m2 (by omega)
          clear m1 m2 c1 c2
          go_enter Try.func6, Try.ntmps6
          go_wp2_with (first
            | (go_at_call 12; first | ((with_reducible refine (H1.out _).mono ?_); rintro e w' ⟨rfl, p, rfl⟩) | ((with_reducible refine (H2.out _).mono ?_); rintro e w' ⟨rfl, p, rfl⟩))
            | (go_at_call 14; (with_reducible refine (awake04_call _).mono ?_); rintro e w' ⟨rfl, p, rfl⟩))
          go_ret
          exact ⟨rfl, ((((Ext.refl w).mored _).mored _).mored _).below'⟩
    · rw [k1] at h1 o1
      rw [k2] at h2 o2
      generalize ((ff x u : Nat) : Int) = A at *
      generalize ((ff y u : Nat) : Int) = B at *
      have H1 := Lib.hid @h1
      have H2 := Lib.hid @h2
      clear h1 h2 k1 k2 hx hy
      go_enter Try.func6, Try.ntmps6
      go_wp2_with (first
        | (go_at_call 12; first | ((with_reducible refine (H1.out _).mono ?_); rintro e w' ⟨rfl, p, rfl⟩) | ((with_reducible refine (H2.out _).mono ?_); rintro e w' ⟨rfl, p, rfl⟩))
        | (go_at_call 14; (with_reducible refine (awake04_call _).mono ?_); rintro e w' ⟨rfl, p, rfl⟩))
      go_ret
      exact ⟨rfl, ((((Ext.refl w).mored _).mored _).mored _).below'⟩
  · rw [k1] at h1 o1
    generalize isn y = P at *
    generalize ((ff x u : Nat) : Int) = A at *
    generalize ((ff y u : Nat) : Int) = B at *
    have H1 := Lib.hid @h1
    have H2 := Lib.hid @h2
    clear h1 h2 k1 hx hy
    cases P
    all_goals
      go_enter Try.func6, Try.ntmps6
      go_wp2_with (first
        | (go_at_call 12; first | ((with_reducible refine (H1.out _).mono ?_); rintro e w' ⟨rfl, p, rfl⟩) | ((with_reducible refine (H2.out _).mono ?_); rintro e w' ⟨rfl, p, rfl⟩))
        | (go_at_call 14; (with_reducible refine (awake04_call _).mono ?_); rintro e w' ⟨rfl, p, rfl⟩))
      go_ret
      exact ⟨rfl, ((((Ext.refl w).mored _).mored _).mored _).below'⟩

set_option maxHeartbeats 2000000 in
set_option maxRecDepth 100000 in
theorem unitSpecialNumbers_walk (x : Nat) (u : Int) (w : World) (hx : (Lit.float .f64 x).wf = true) (u0 : 0 ≤ u) (u1 : u ≤ 65535) :
    Calls Try.prog 7 #[.float .f64 x, .int .u16 u] w fun e w' => e = .returned (.bool true) ∧ Below w.heap.size w w' := by
  obtain ⟨u, rfl⟩ := nat_of u0
  have h1 := fun w => ff_call 9218868437227405312 u w (by omega) (by omega)
  have h2 := fun w => ff_call 18442240474082181120 u w (by omega) (by omega)
  have h3 := fun w => ff_call 9223372036854775808 u w (by omega) (by omega)
  have h4 := fun w => ff_call x u w (wf_lt hx) (by omega)
  have i1 : isn 9218868437227405312 = false := by decide +kernel
  have i2 : isn 18442240474082181120 = false := by decide +kernel
  have i3 : isn 9223372036854775808 = false := by decide +kernel
  have s1 : (big : Int) ≤ sv 9218868437227405312 := by decide +kernel
  have s2 : sv 18442240474082181120 ≤ 0 := by decide +kernel
  have s3 : sv 9223372036854775808 ≤ 0 := by decide +kernel
  have bp := big_pos
  have e1 : ff 9218868437227405312 u = u := by unfold ff; rw [if_neg (by rw [i1]; simp), if_neg (by omega), if_pos s1]
  have e2 : ff 18442240474082181120 u = 0 := by unfold ff; rw [if_neg (by rw [i2]; simp), if_pos s2]
  have e3 : ff 9223372036854775808 u = 0 := by unfold ff; rw [if_neg (by rw [i3]; simp), if_pos s3]
  rw [e1, i1] at h1
  rw [e2, i2] at h2
  rw [e3, i3] at h3
  have h2' : FFC 12 18442240474082181120 u 0 true := h2
  have h3' : FFC 12 9223372036854775808 u 0 true := h3
  have o1 := o_ne x
  have H1 := Lib.hid @h1
  have H2 := Lib.hid @h2'
  have H3 := Lib.hid @h3'
  have l4 := ff_le x u
  clear h1 h2 h3 h2' h3' i1 i2 i3 s1 s2 s3 e1 e2 e3
  cases hn : isn x
  · have o2 := o_lt (c := 0) hn isn_zero
    have o3 := o_ge1 hn
    rw [sv_zero] at o2
    rw [hn] at o1 h4
    by_cases c1 : sv x < 0
    · rw [decide_eq_true c1] at o2
      have e4 : ff x u = 0 := by unfold ff; rw [if_neg (by rw [hn]; simp), if_pos (by omega)]
      rw [e4] at h4
      have h4' : FFC 12 x u 0 true := h4
      have H4 := Lib.hid @h4'
      clear h4 h4' o3 c1 e4 hn bp l4 hx
      go_enter Try.func7, Try.ntmps7
      go_wp2_with (first
        | (go_at_call 17; first | ((with_reducible refine (inf_call _).mono ?_); rintro e w' ⟨rfl, rfl⟩) | ((with_reducible refine (ninf_call _).mono ?_); rintro e w' ⟨rfl, rfl⟩))
        | (go_at_call 18; (with_reducible refine (copysign_call _).mono ?_); rintro e w' ⟨rfl, rfl⟩)
        | (go_at_call 12; first | ((with_reducible refine (H1.out _).mono ?_); rintro e w' ⟨rfl, p, rfl⟩) | ((with_reducible refine (H2.out _).mono ?_); rintro e w' ⟨rfl, p, rfl⟩) | ((with_reducible refine (H3.out _).mono ?_); rintro e w' ⟨rfl, p, rfl⟩) | ((with_reducible refine (H4.out _).mono ?_); rintro e w' ⟨rfl, p, rfl⟩))
        | (go_at_call 14; (with_reducible refine (awake04_call _).mono ?_); rintro e w' ⟨rfl, p, rfl⟩))
      go_ret
      exact ⟨rfl, (((((Ext.refl w).mored _).mored _).mored _).mored _ |>.mored _).below'⟩
    · rw [decide_eq_false c1] at o2
      by_cases c2 : (big : Int) ≤ sv x
      · rw [decide_eq_true c2] at o3
        have e4 : ff x u = u := by unfold ff; rw [if_neg (by rw [hn]; simp), if_neg (by omega), if_pos c2]
        rw [e4] at h4
        have H4 := Lib.hid @h4
        clear h4 c1 c2 e4 hn bp l4 hx
        go_enter Try.func7, Try.ntmps7
        go_wp2_with (first
          | (go_at_call 17; first | ((with_reducible refine (inf_call _).mono ?_); rintro e w' ⟨rfl, rfl⟩) | ((with_reducible refine (ninf_call _).mono ?_); rintro e w' ⟨rfl, rfl⟩))
          | (go_at_call 18; (with_reducible refine (copysign_call _).mono ?_); rintro e w' ⟨rfl, rfl⟩)
          | (go_at_call 12; first | ((with_reducible refine (H1.out _).mono ?_); rintro e w' ⟨rfl, p, rfl⟩) | ((with_reducible refine (H2.out _).mono ?_); rintro e w' ⟨rfl, p, rfl⟩) | ((with_reducible refine (H3.out _).mono ?_); rintro e w' ⟨rfl, p, rfl⟩) | ((with_reducible refine (H4.out _).mono ?_); rintro e w' ⟨rfl, p, rfl⟩))
          | (go_at_call 14; (with_reducible refine (awake04_call _).mono ?_); rintro e w' ⟨rfl, p, rfl⟩))
        go_ret
        exact ⟨rfl, (((((Ext.refl w).mored _).mored _).mored _).mored _ |>.mored _).below'⟩
      · rw [decide_eq_false c2] at o3
        have l5 : ((ff x u : Nat) : Int) ≤ u := by omega
        generalize ((ff x u : Nat) : Int) = A at *
        have H4 := Lib.hid @h4
        clear h4 c1 c2 hn bp l4 hx
        go_enter Try.func7, Try.ntmps7
        go_wp2_with (first
          | (go_at_call 17; first | ((with_reducible refine (inf_call _).mono ?_); rintro e w' ⟨rfl, rfl⟩) | ((with_reducible refine (ninf_call _).mono ?_); rintro e w' ⟨rfl, rfl⟩))
          | (go_at_call 18; (with_reducible refine (copysign_call _).mono ?_); rintro e w' ⟨rfl, rfl⟩)
          | (go_at_call 12; first | ((with_reducible refine (H1.out _).mono ?_); rintro e w' ⟨rfl, p, rfl⟩) | ((with_reducible refine (H2.out _).mono ?_); rintro e w' ⟨rfl, p, rfl⟩) | ((with_reducible refine (H3.out _).mono ?_); rintro e w' ⟨rfl, p, rfl⟩) | ((with_reducible refine (H4.out _).mono ?_); rintro e w' ⟨rfl, p, rfl⟩))
          | (go_at_call 14; (with_reducible refine (awake04_call _).mono ?_); rintro e w' ⟨rfl, p, rfl⟩))
        go_ret
        exact ⟨rfl, (((((Ext.refl w).mored _).mored _).mored _).mored _ |>.mored _).below'⟩
  · rw [hn] at o1 h4
    have e4 : ff x u = 0 := by unfold ff; rw [if_pos hn]
    rw [e4] at h4
    have h4' : FFC 12 x u 0 false := h4
    have H4 := Lib.hid @h4'
    clear h4 h4' e4 hn bp l4 hx
    go_enter Try.func7, Try.ntmps7
    go_wp2_with (first
      | (go_at_call 17; first | ((with_reducible refine (inf_call _).mono ?_); rintro e w' ⟨rfl, rfl⟩) | ((with_reducible refine (ninf_call _).mono ?_); rintro e w' ⟨rfl, rfl⟩))
      | (go_at_call 18; (with_reducible refine (copysign_call _).mono ?_); rintro e w' ⟨rfl, rfl⟩)
      | (go_at_call 12; first | ((with_reducible refine (H1.out _).mono ?_); rintro e w' ⟨rfl, p, rfl⟩) | ((with_reducible refine (H2.out _).mono ?_); rintro e w' ⟨rfl, p, rfl⟩) | ((with_reducible refine (H3.out _).mono ?_); rintro e w' ⟨rfl, p, rfl⟩) | ((with_reducible refine (H4.out _).mono ?_); rintro e w' ⟨rfl, p, rfl⟩))
      | (go_at_call 14; (with_reducible refine (awake04_call _).mono ?_); rintro e w' ⟨rfl, p, rfl⟩))
    go_ret
    exact ⟨rfl, (((((Ext.refl w).mored _).mored _).mored _).mored _ |>.mored _).below'⟩
end Go.Proofs.Ytgjlmkombpgdgaa
