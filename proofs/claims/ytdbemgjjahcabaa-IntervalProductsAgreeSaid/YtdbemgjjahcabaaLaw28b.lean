/- The walk of IntervalRootAndSquare. -/
import Derived.Test.YtdbemgjjahcabaaIvLaw
import Derived.Test.YtdbemgjjahcabaaIvMD
namespace Go.Proofs.Ytdbemgjjahcabaa
open Go.RowKit
set_option linter.unusedVariables false

theorem Ext.below' {w W : World} (h : Ext w W) : Below w.heap.size w W := by obtain ⟨q, rfl⟩ := h; exact more_below w q
/-- what Mul gives for two points, and for an interval by itself -/
theorem mul_ok {xl xh yl yh : Int} (hx : ivB xl xh = true) (hy : ivB yl yh = true) (b1 : -4398046511104 ≤ xl) (b2 : xh ≤ 4398046511104) (b3 : -4398046511104 ≤ yl) (b4 : yh ≤ 4398046511104) :
    mOk xl xh yl yh = true ∧ ivB (mLo xl xh yl yh) (mHi xl xh yl yh) = true := by
  obtain ⟨x0, x1, x2⟩ := ivB_parts hx
  obtain ⟨y0, y1, y2⟩ := ivB_parts hy
  have small : ∀ a b : Int, -4398046511104 ≤ a → a ≤ 4398046511104 → -4398046511104 ≤ b → b ≤ 4398046511104 → -19342813113834066795298816 ≤ a * b ∧ a * b ≤ 19342813113834066795298816 := by
    intro a b a0 a1 b0 b1
    have h1 := @bil_lo (-19342813113834066795298816) (-4398046511104) 4398046511104 (-4398046511104) 4398046511104 a b 1 1 (by omega) (by omega) (by omega) (by omega) (by omega) (by omega) (by decide) (by decide) (by decide) (by decide)
    have h2 := @bil_hi 19342813113834066795298816 (-4398046511104) 4398046511104 (-4398046511104) 4398046511104 a b 1 1 (by omega) (by omega) (by omega) (by omega) (by omega) (by omega) (by decide) (by decide) (by decide) (by decide)
    omega
  have k1 := small xl yl (by omega) (by omega) (by omega) (by omega)
  have k2 := small xl yh (by omega) (by omega) (by omega) (by omega)
  have k3 := small xh yl (by omega) (by omega) (by omega) (by omega)
  have k4 := small xh yh (by omega) (by omega) (by omega) (by omega)
  have rk : ∀ P : Int, -19342813113834066795298816 ≤ P ∧ P ≤ 19342813113834066795298816 → rok P 1099511627776 = true := fun P h => decide_eq_true (by omega)
  constructor
  · unfold mOk cokB
    rw [hx, hy, rk _ k1, rk _ k2, rk _ k3, rk _ k4]; rfl
  · unfold mLo mHi cLo cHi min4 max4
    generalize xl * yl = A at *
    generalize xl * yh = B at *
    generalize xh * yl = C at *
    generalize xh * yh = D at *
    have f : ∀ P : Int, P / 1099511627776 ≤ cei P 1099511627776 := fun P => flo_le_cei P _ (by decide)
    have g : ∀ P : Int, -19342813113834066795298816 ≤ P ∧ P ≤ 19342813113834066795298816 → cei P 1099511627776 ≤ 17592186044416 := fun P h => (cei_le (by decide)).2 (by omega)
    have f1 := f A
    have g1 := g A k1
    have g2 := g B k2
    have g3 := g C k3
    have g4 := g D k4
    refine decide_eq_true ?_
    omega
theorem csq_spec {N : Int} (h0 : 0 ≤ N) (h1 : N ≤ 19342813113834066795298816) : 0 ≤ csq N ∧ csq N ≤ 4398046511105 ∧ N ≤ csq N * csq N ∧ isq N ≤ csq N ∧ csq N ≤ isq N + 1 := by
  have hr := isq_spec (N := N) h0 (by omega)
  obtain ⟨s0, s1⟩ := csq_small h0 h1
  refine ⟨s0, s1, ?_, ?_, ?_⟩
  · unfold csq
    split
    · have := hr.hi; omega
    · omega
  · unfold csq; split <;> omega
  · unfold csq; split <;> omega
theorem le_csq {N v : Int} (v0 : 0 ≤ v) (h0 : 0 ≤ N) (h1 : N ≤ 19342813113834066795298816) (h : v * v ≤ N) : v ≤ csq N := by
  obtain ⟨s0, s1, s2, _, _⟩ := csq_spec h0 h1
  apply Int.not_lt.1
  intro hl
  have := sq_mono (a := csq N + 1) (b := v) (by omega) (by omega)
  have e : (csq N + 1) * (csq N + 1) = csq N * csq N + csq N + csq N + 1 := by rw [Int.add_mul, Int.mul_add]; omega
  omega
theorem mk_good' {lo hi : Int} {ok : Bool} (hk : ok = true) (h : ivB lo hi = true) : mkL lo hi ok = lo ∧ mkH lo hi ok = hi ∧ mkB lo hi ok = true := by subst hk; exact mk_good h
/-- the plain law of roots and squares -/
theorem root_square {v : Int} (v0 : 0 ≤ v) (v1 : v ≤ 2199023255551) :
    ∃ sl sh rl rh tl th ul uh : Int,
      (∀ w, Calls Try.prog 26 #[.agg #[.int .i64 v, .int .i64 v], .agg #[.int .i64 v, .int .i64 v]] w fun e w' => e = .returned (.tuple #[.agg #[.int .i64 sl, .int .i64 sh], .bool true]) ∧ ∃ p, w' = more w p) ∧
      (∀ w, Calls Try.prog 27 #[.agg #[.int .i64 sl, .int .i64 sh]] w fun e w' => e = .returned (.tuple #[.agg #[.int .i64 rl, .int .i64 rh], .bool true]) ∧ ∃ p, w' = more w p) ∧
      (∀ w, Calls Try.prog 27 #[.agg #[.int .i64 v, .int .i64 v]] w fun e w' => e = .returned (.tuple #[.agg #[.int .i64 tl, .int .i64 th], .bool true]) ∧ ∃ p, w' = more w p) ∧
      (∀ w, Calls Try.prog 26 #[.agg #[.int .i64 tl, .int .i64 th], .agg #[.int .i64 tl, .int .i64 th]] w fun e w' => e = .returned (.tuple #[.agg #[.int .i64 ul, .int .i64 uh], .bool true]) ∧ ∃ p, w' = more w p) ∧
      rl ≤ v ∧ v ≤ rh ∧ ul ≤ v ∧ v ≤ uh ∧ th - tl ≤ 1 ∧ tl ≤ th ∧ 0 ≤ tl ∧ th ≤ 4398046511104 := by
  have hv : ivB v v = true := decide_eq_true (by omega)
  obtain ⟨m1, m2⟩ := mul_ok hv hv (by omega) (by omega) (by omega) (by omega)
  obtain ⟨p0, p1⟩ := mul_bound v v 2199023255551 2199023255551 v0 v0 v1 v1
  have eL : mLo v v v v = v * v / 1099511627776 := by unfold mLo cLo; simp
  have eH : mHi v v v v = cei (v * v) 1099511627776 := by unfold mHi cHi; simp
  rw [eL, eH] at m2
  have S0 : 0 ≤ v * v / 1099511627776 := Int.ediv_nonneg p0 (by omega)
  have sf := flo_mul_le (v * v) 1099511627776 (by decide)
  have sc := le_cei_mul (v * v) 1099511627776 (by decide)
  obtain ⟨s1, s2, s3⟩ := mk_good' m1 m2
  obtain ⟨z0, z1, z2⟩ := ivB_parts m2
  have c1 := fun w => ivMul_call v v v v w
  rw [eL, eH, s1, s2, s3] at c1
  generalize v * v / 1099511627776 = sl at *
  generalize cei (v * v) 1099511627776 = sh at *
  -- the root of the square
  have r1 := isq_spec (N := sl * 1099511627776) (by omega) (by omega)
  obtain ⟨t0, t1, t2, t3, t4⟩ := csq_spec (N := sh * 1099511627776) (by omega) (by omega)
  have ql : isq (sl * 1099511627776) ≤ v := by
    apply Int.not_lt.1
    intro hl
    have h1 := sq_mono (a := v + 1) (b := isq (sl * 1099511627776)) (by omega) (by omega)
    have h2 := r1.lo
    have e : (v + 1) * (v + 1) = v * v + v + v + 1 := by rw [Int.add_mul, Int.mul_add]; omega
    omega
  have qh : v ≤ csq (sh * 1099511627776) := le_csq v0 (by omega) (by omega) (by omega)
  have r0 := r1.r0
  have hr : ivB (isq (sl * 1099511627776)) (csq (sh * 1099511627776)) = true := decide_eq_true (by omega)
  have hq : qOk sl sh = true := by unfold qOk; rw [m2, decide_eq_true S0]; rfl
  obtain ⟨g1, g2, g3⟩ := mk_good' hq hr
  have c2 := fun w => ivSqrt_call sl sh w
  rw [g1, g2, g3] at c2
  -- the root of the number
  have q1 := isq_spec (N := v * 1099511627776) (by omega) (by omega)
  obtain ⟨y0, y1, y2, y3, y4⟩ := csq_spec (N := v * 1099511627776) (by omega) (by omega)
  have q0 := q1.r0
  have y5 : csq (v * 1099511627776) ≤ 4398046511104 := by
    have hi : isq (v * 1099511627776) ≤ 4398046511103 := by
      apply Int.not_lt.1
      intro hl
      have h1 := sq_mono (a := 4398046511104) (b := isq (v * 1099511627776)) (by omega) (by omega)
      have h2 := q1.lo
      omega
    omega
  have ht : ivB (isq (v * 1099511627776)) (csq (v * 1099511627776)) = true := decide_eq_true (by omega)
  have hq2 : qOk v v = true := by unfold qOk; rw [hv, decide_eq_true v0]; rfl
  obtain ⟨f1, f2, f3⟩ := mk_good' hq2 ht
  have c3 := fun w => ivSqrt_call v v w
  rw [f1, f2, f3] at c3
  have lo3 := q1.lo
  generalize isq (v * 1099511627776) = tl at *
  generalize csq (v * 1099511627776) = th at *
  obtain ⟨m3, m4⟩ := mul_ok ht ht (by omega) (by omega) (by omega) (by omega)
  obtain ⟨h1, h2, h3⟩ := mk_good' m3 m4
  have c4 := fun w => ivMul_call tl th tl th w
  rw [h1, h2, h3] at c4
  refine ⟨sl, sh, _, _, tl, th, _, _, c1, c2, c3, c4, ql, qh, ?_, ?_, by omega, by omega, q0, y5⟩
  · have e1 : mLo tl th tl th ≤ tl * tl / 1099511627776 := by unfold mLo cLo min4; omega
    have e2 : tl * tl / 1099511627776 ≤ v := by
      have := flo_mono (d := 1099511627776) (by decide) lo3
      rw [flo_exact _ _ (by decide)] at this
      exact this
    omega
  · have e1 : cei (th * th) 1099511627776 ≤ mHi tl th tl th := by unfold mHi cHi max4; omega
    have e2 : v ≤ cei (th * th) 1099511627776 := by
      have := cei_mono (d := 1099511627776) (by decide) y2
      rw [cei_exact _ _ (by decide)] at this
      exact this
    omega

set_option maxHeartbeats 4000000 in
set_option maxRecDepth 100000 in
theorem intervalRootAndSquare_walk (n : Int) (w : World) (n0 : -9223372036854775808 ≤ n) (n1 : n ≤ 9223372036854775807) :
    Calls Try.prog 5 #[.int .i64 n] w fun e w' => e = .returned (.bool true) ∧ Below w.heap.size w w' := by
  obtain ⟨v, hv⟩ : ∃ v, n % 2199023255552 = v := ⟨_, rfl⟩
  have v0 : 0 ≤ v := by omega
  have v1 : v ≤ 2199023255551 := by omega
  obtain ⟨sl, sh, rl, rh, tl, th, ul, uh, c1, c2, c3, c4, d1, d2, d3, d4, d5, d6, d7, d8⟩ := root_square v0 v1
  have mc := mod_call n 2199023255552
  rw [hv] at mc
  have MC := Lib.hid @mc
  have C1 := Lib.hid @c1
  have C2 := Lib.hid @c2
  have C3 := Lib.hid @c3
  have C4 := Lib.hid @c4
  clear c1 c2 c3 c4 mc hv
  go_enter Try.func5, Try.ntmps5
  go_upto_region 2 with (go_at_call 10; (with_reducible refine (MC.out _ (by omega) (by omega)).mono ?_); rintro e w' ⟨rfl, rfl⟩)
  refine at_world (fun V => Ext w V) (Ext.refl w) ?_
  rintro wc hE
  go_cut [4] (fun s4 Z => ∃ gx : Nat, Ext wc Z ∧ s4 = .pointer (some ⟨gx, 0, none⟩) ∧ Z.heap[gx]? = some (ivO v v))
  case first =>
    go_wp2_with fail
    go_meet
    refine ⟨_, ?_, rfl, ?_⟩
    all_goals repeat (first | exact Ext.refl _ | refine Ext.mored ?_ _ | refine Ext.drewN ?_ _ | refine Ext.alloc ?_ _ | (refine at_new ?_; first | rfl | (simp; done)) | refine at_more ?_ | refine at_drew ?_ | refine at_old ?_)
  case rest =>
    obtain ⟨gx, hX, rfl, ex⟩ := hcut
    replace hE := hE.trans hX
    clear hX
    go_upto_region 3 with fail
    go_cut [5, 6] (fun s5 s6 Z => ∃ gs : Nat, Ext wc Z ∧ s5 = .pointer (some ⟨gs, 0, none⟩) ∧ s6 = .bool true ∧ Z.heap[gs]? = some (ivO sl sh))
    case first =>
      obtain ⟨cx0, cx1, cx2, cx3⟩ := iv_of ex
      go_wp2_with (go_at_call 26; first | ((with_reducible refine (C1.out _).mono ?_); rintro e w' ⟨rfl, q, rfl⟩))
      go_meet
      refine ⟨_, ?_, rfl, rfl, ?_⟩
      all_goals repeat (first | exact Ext.refl _ | refine Ext.mored ?_ _ | refine Ext.drewN ?_ _ | refine Ext.alloc ?_ _ | (refine at_new ?_; first | rfl | (simp; done)) | refine at_more ?_ | refine at_drew ?_ | refine at_old ?_)
    case rest =>
      obtain ⟨gs, hX, rfl, rfl, es⟩ := hcut
      replace hE := hE.trans hX
      replace ex := at_ext hX ex
      clear hX
      go_upto_region 4 with fail
      go_cut [7, 8] (fun s7 s8 Z => ∃ gr : Nat, Ext wc Z ∧ s7 = .pointer (some ⟨gr, 0, none⟩) ∧ s8 = .bool true ∧ Z.heap[gr]? = some (ivO rl rh))
      case first =>
        obtain ⟨cs0, cs1, cs2, cs3⟩ := iv_of es
        go_wp2_with (go_at_call 27; first | ((with_reducible refine (C2.out _).mono ?_); rintro e w' ⟨rfl, q, rfl⟩))
        go_meet
        refine ⟨_, ?_, rfl, rfl, ?_⟩
        all_goals repeat (first | exact Ext.refl _ | refine Ext.mored ?_ _ | refine Ext.drewN ?_ _ | refine Ext.alloc ?_ _ | (refine at_new ?_; first | rfl | (simp; done)) | refine at_more ?_ | refine at_drew ?_ | refine at_old ?_)
      case rest =>
        obtain ⟨gr, hX, rfl, rfl, er⟩ := hcut
        replace hE := hE.trans hX
        replace ex := at_ext hX ex
        replace es := at_ext hX es
        clear hX
        go_upto_region 5 with fail
        go_cut [9, 10] (fun s9 s10 Z => ∃ gt : Nat, Ext wc Z ∧ s9 = .pointer (some ⟨gt, 0, none⟩) ∧ s10 = .bool true ∧ Z.heap[gt]? = some (ivO tl th))
        case first =>
          obtain ⟨cx0, cx1, cx2, cx3⟩ := iv_of ex
          go_wp2_with (go_at_call 27; first | ((with_reducible refine (C3.out _).mono ?_); rintro e w' ⟨rfl, q, rfl⟩))
          go_meet
          refine ⟨_, ?_, rfl, rfl, ?_⟩
          all_goals repeat (first | exact Ext.refl _ | refine Ext.mored ?_ _ | refine Ext.drewN ?_ _ | refine Ext.alloc ?_ _ | (refine at_new ?_; first | rfl | (simp; done)) | refine at_more ?_ | refine at_drew ?_ | refine at_old ?_)
        case rest =>
          obtain ⟨gt, hX, rfl, rfl, et⟩ := hcut
          replace hE := hE.trans hX
          replace ex := at_ext hX ex
          replace es := at_ext hX es
          replace er := at_ext hX er
          clear hX
          go_upto_region 6 with fail
          go_cut [11, 12] (fun s11 s12 Z => ∃ gu : Nat, Ext wc Z ∧ s11 = .pointer (some ⟨gu, 0, none⟩) ∧ s12 = .bool true ∧ Z.heap[gu]? = some (ivO ul uh))
          case first =>
            obtain ⟨ct0, ct1, ct2, ct3⟩ := iv_of et
            go_wp2_with (go_at_call 26; first | ((with_reducible refine (C4.out _).mono ?_); rintro e w' ⟨rfl, q, rfl⟩))
            go_meet
            refine ⟨_, ?_, rfl, rfl, ?_⟩
            all_goals repeat (first | exact Ext.refl _ | refine Ext.mored ?_ _ | refine Ext.drewN ?_ _ | refine Ext.alloc ?_ _ | (refine at_new ?_; first | rfl | (simp; done)) | refine at_more ?_ | refine at_drew ?_ | refine at_old ?_)
          case rest =>
            obtain ⟨gu, hX, rfl, rfl, eu⟩ := hcut
            replace hE := hE.trans hX
            replace ex := at_ext hX ex
            replace es := at_ext hX es
            replace er := at_ext hX er
            replace et := at_ext hX et
            clear hX
            obtain ⟨cr0, cr1, cr2, cr3⟩ := iv_of er
            obtain ⟨ct0, ct1, ct2, ct3⟩ := iv_of et
            obtain ⟨cu0, cu1, cu2, cu3⟩ := iv_of eu
            replace hE := Lib.hid hE
            have hmc := more_cell
            have hmh := more_heap
            have t1 : decide (rl ≤ v) = true := decide_eq_true d1
            have t2 : decide (v ≤ rh) = true := decide_eq_true d2
            have t3 : decide (ul ≤ v) = true := decide_eq_true d3
            have t4 : decide (v ≤ uh) = true := decide_eq_true d4
            have t5 : decide (th - tl ≤ 1) = true := decide_eq_true d5
            go_wp2_with (go_at_call 11; first | ((with_reducible refine (awake_call _).mono ?_); rintro e w' ⟨rfl, q, rfl⟩))
            go_ret
            exact ⟨rfl, (hE.out.mored _).below'⟩
end Go.Proofs.Ytdbemgjjahcabaa
