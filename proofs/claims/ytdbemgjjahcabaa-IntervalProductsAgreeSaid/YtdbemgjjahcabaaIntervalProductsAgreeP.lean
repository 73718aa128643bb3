/- The statement of IntervalProductsAgree is proved: for every input the law returns true. -/
import Derived.Test.YtdbemgjjahcabaaFrame
import Derived.Test.YtdbemgjjahcabaaLaw28f
namespace Go.Proofs.Ytdbemgjjahcabaa.intervalProductsAgree
open Go.ChangeShapes Go.WideShapes Go.ChangeAt Go.RowKit Go.Deep
open Go.ChangeMaps (open_string shut_string)
set_option linter.unusedVariables false

theorem own : ownKnob Try.prog.godebug = none := by kernel_rfl
theorem laidOut : laidOutB Try.prog = true := by kernel_rfl

set_option maxRecDepth 100000 in
theorem lifted (os : Os) (started : os.Started) (H : Type) (enc : TypeId × Value → H) :
    ReturnsInHanded {} Try.checked os 6 .any (Rows.intervalProductsAgreeSpec.pre6 enc Try.prog Try.f6 Rows.intervalProductsAgreeRow.domain false) (Rows.intervalProductsAgreeSpec.post enc Try.prog Try.f6 false true false false) := by
  refine returnsInHanded_of_change (C := Try.checked) own started (by kernel_rfl) Try.func6
    (ChangeSpec.witness6 (enc := enc) (C := Try.checked) false ⟨#[], #[.agg #[.int .i64 0, .int .i64 0], .agg #[.int .i64 0, .int .i64 0], .agg #[.int .i64 0, .int .i64 0], .agg #[.int .i64 0, .int .i64 0], .int .i64 0, .int .i64 0], []⟩ 8 (by kernel_rfl) (by kernel_rfl) (by kernel_rfl) (by kernel_rfl)) ?_
  intro W base args ds gs before hval0 hW hcnd _
  have hval : ∀ (j : Nat) t v, Try.f6.params[j]? = some t → args[j]? = some v → Value.okWide Try.prog W .any base t v := hval0
  have hW' := hW
  obtain ⟨p, q, hA0, hV, rfl, hfz, hnd⟩ := hW
  have hA : DataW.TrodAll enc Try.prog W 0 (fun _ => true) true Try.f6.params.toList args.toList ds p := hA0
  obtain ⟨rfl, rfl⟩ := trodVars_none hV
  simp only [List.append_nil] at hW'
  have hlt : ∀ x ∈ p, x.block < W.heap.size := fun x hx => hW'.lt x hx
  have hB : ∀ (W' : World), Below W.heap.size W W' → ∀ sp : Nat → Bool, (∀ x ∈ p, sp x.block = true) → DataW.TrodAll enc Try.prog W' 0 sp true Try.f6.params.toList args.toList ds p :=
    fun W' hb sp hsp => trodAll_below laidOut hb _ (by kernel_rfl) _ _ _ hA hlt hsp
  rw [Try.params6] at hA hval
  obtain ⟨v0, vs0, d0, ds0, p0, q0, hargs, rfl, rfl, h0, r0⟩ := trodAll_cons hA
  obtain ⟨v1, vs1, d1, ds1, p1, q1, rfl, rfl, rfl, h1, r1⟩ := trodAll_cons r0
  obtain ⟨v2, vs2, d2, ds2, p2, q2, rfl, rfl, rfl, h2, r2⟩ := trodAll_cons r1
  obtain ⟨v3, vs3, d3, ds3, p3, q3, rfl, rfl, rfl, h3, r3⟩ := trodAll_cons r2
  obtain ⟨v4, vs4, d4, ds4, p4, q4, rfl, rfl, rfl, h4, r4⟩ := trodAll_cons r3
  obtain ⟨v5, vs5, d5, ds5, p5, q5, rfl, rfl, rfl, h5, r5⟩ := trodAll_cons r4
  obtain ⟨rfl, rfl, rfl⟩ := trodAll_nil r5
  obtain rfl : args = #[v0, v1, v2, v3, v4, v5] := by cases args; simp_all
  obtain ⟨zs0, rfl, zl0, zw0⟩ := open_arr_ints Try.underlying22 Try.underlying2 (by kernel_rfl) (by kernel_rfl) (hval 0 22 v0 rfl rfl) h0
  obtain ⟨a0_0, a0_1, rfl⟩ := list2 zl0
  have b0_0 := bounds_i64 (zw0 a0_0 (by simp))
  have b0_1 := bounds_i64 (zw0 a0_1 (by simp))
  obtain ⟨zs1, rfl, zl1, zw1⟩ := open_arr_ints Try.underlying22 Try.underlying2 (by kernel_rfl) (by kernel_rfl) (hval 1 22 v1 rfl rfl) h1
  obtain ⟨a1_0, a1_1, rfl⟩ := list2 zl1
  have b1_0 := bounds_i64 (zw1 a1_0 (by simp))
  have b1_1 := bounds_i64 (zw1 a1_1 (by simp))
  obtain ⟨a2_0, a2_1, rfl, w2_0, w2_1⟩ := open_pair Try.underlying24 rfl rfl Try.underlying2 (by kernel_rfl) (by kernel_rfl) (hval 2 24 v2 rfl rfl) h2
  have b2_0 := bounds_i64 w2_0
  have b2_1 := bounds_i64 w2_1
  obtain ⟨a3_0, a3_1, rfl, w3_0, w3_1⟩ := open_pair Try.underlying24 rfl rfl Try.underlying2 (by kernel_rfl) (by kernel_rfl) (hval 3 24 v3 rfl rfl) h3
  have b3_0 := bounds_i64 w3_0
  have b3_1 := bounds_i64 w3_1
  obtain ⟨a4, rfl, rfl, rfl, w4⟩ := open_int Try.underlying2 (hval 4 2 v4 rfl rfl) h4
  have b4 := bounds_i64 w4
  obtain ⟨a5, rfl, rfl, rfl, w5⟩ := open_int Try.underlying2 (hval 5 2 v5 rfl rfl) h5
  have b5 := bounds_i64 w5
  clear hA0 hval0
  refine (intervalProductsAgree_walk a0_0 a0_1 a1_0 a1_1 a2_0 a2_1 a3_0 a3_1 a4 a5 W b0_0.1 b0_0.2 b0_1.1 b0_1.2 b1_0.1 b1_0.2 b1_1.1 b1_1.2 b2_0.1 b2_0.2 b2_1.1 b2_1.2 b3_0.1 b3_0.2 b3_1.1 b3_1.2 b4.1 b4.2 b5.1 b5.2).mono fun e W' ⟨he, hg⟩ => ?_
  subst he
  exact ⟨_, rfl, post_below (pv := []) hW' (fun _ _ _ => (trodAll_cons_mk (shut_bool Try.underlying4 _) trodAll_mk0)) (fun sp hsp => hB W' hg sp hsp) (fun _ _ => rfl) (by simp) hg (ok_one (by kernel_rfl) rfl (okWide_bool_mk Try.underlying4 _))⟩

theorem over : Rows.intervalProductsAgreeRow.holds Try.pinned (OpenSpec.ofChange Rows.intervalProductsAgreeSpec) :=
  OpenClaim.holds_of_wide 6 Try.f6 rfl rfl rfl rfl rfl rfl rfl ⟨rfl, rfl, rfl, rfl, rfl⟩ rfl rfl rfl rfl rfl (by kernel_rfl) Try.func6 (by kernel_rfl)
    (of_decide_eq_true (by kernel_rfl)) (by unfold Func.isWrapper; first | (rw [if_pos (by decide +kernel)]; kernel_rfl) | (rw [if_neg (by decide +kernel)]; exact ⟨rfl, rfl⟩))
    (fun os started H enc _ => lifted os started H enc)

theorem proved : Rows.IntervalProductsAgreeSaid :=
  over
#print axioms proved
end Go.Proofs.Ytdbemgjjahcabaa.intervalProductsAgree
