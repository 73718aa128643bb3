/- For all arguments the statement SampleDepthsAgree returns true; no condition. -/
import Derived.Test.YtmehclilgmigkaaFrame
import Derived.Test.YtmehclilgmigkaaDepths
namespace Go.Proofs.Ytmehclilgmigkaa.sampleDepthsAgree
open Go.ChangeShapes Go.WideShapes Go.ChangeAt Go.RowKit Go.Deep
set_option linter.unusedVariables false

theorem own : ownKnob Try.prog.godebug = none := by kernel_rfl
theorem laidOut : laidOutB Try.prog = true := by kernel_rfl

set_option maxRecDepth 100000 in
theorem lifted (os : Os) (started : os.Started) (H : Type) (enc : TypeId × Value → H) :
    ReturnsInHanded {} Try.checked os 8 .any (Rows.sampleDepthsAgreeSpec.pre6 enc Try.prog Try.f8 Rows.sampleDepthsAgreeRow.domain false) (Rows.sampleDepthsAgreeSpec.post enc Try.prog Try.f8 false true false false) := by
  refine returnsInHanded_of_change (C := Try.checked) own started (by kernel_rfl) Try.func8
    (ChangeSpec.witness6 (enc := enc) (C := Try.checked) false ⟨#[], #[.int .u16 0, .agg #[.int .u16 0, .int .u16 0, .int .u16 0, .int .u16 0, .int .u16 0]], []⟩ 8 (by kernel_rfl) (by kernel_rfl) (by kernel_rfl) (by kernel_rfl)) ?_
  intro W base args ds gs before hval0 hW hcnd _
  have hval : ∀ (j : Nat) t v, Try.f8.params[j]? = some t → args[j]? = some v → Value.okWide Try.prog W .any base t v := hval0
  have hW' := hW
  obtain ⟨p, q, hA0, hV, rfl, hfz, hnd⟩ := hW
  have hA : DataW.TrodAll enc Try.prog W 0 (fun _ => true) true Try.f8.params.toList args.toList ds p := hA0
  obtain ⟨rfl, rfl⟩ := trodVars_none hV
  simp only [List.append_nil] at hW'
  have hlt : ∀ x ∈ p, x.block < W.heap.size := fun x hx => hW'.lt x hx
  have hB : ∀ (W' : World), Below W.heap.size W W' → ∀ sp : Nat → Bool, (∀ x ∈ p, sp x.block = true) → DataW.TrodAll enc Try.prog W' 0 sp true Try.f8.params.toList args.toList ds p :=
    fun W' hb sp hsp => trodAll_below laidOut hb _ (by kernel_rfl) _ _ _ hA hlt hsp
  rw [Try.params8] at hA hval
  obtain ⟨v0, vs0, d0, ds0, p0, q0, hargs, rfl, rfl, h0, r0⟩ := trodAll_cons hA
  obtain ⟨v1, vs1, d1, ds1, p1, q1, rfl, rfl, rfl, h1, r1⟩ := trodAll_cons r0
  obtain ⟨rfl, rfl, rfl⟩ := trodAll_nil r1
  obtain rfl : args = #[v0, v1] := by cases args; simp_all
  obtain ⟨a0, rfl, rfl, rfl, w0⟩ := open_int Try.underlying22 (hval 0 22 v0 rfl rfl) h0
  have b0 := bounds_u16 w0
  obtain ⟨a1_0, a1_1, a1_2, a1_3, a1_4, rfl, w1_0, w1_1, w1_2, w1_3, w1_4⟩ := open_pixel Try.underlying35 rfl rfl rfl rfl rfl rfl Try.underlying33 Try.underlying22 (by kernel_rfl) (by kernel_rfl) (by kernel_rfl) (hval 1 35 v1 rfl rfl) h1
  have b1_0 := bounds_u16 w1_0
  have b1_1 := bounds_u16 w1_1
  have b1_2 := bounds_u16 w1_2
  have b1_3 := bounds_u16 w1_3
  have b1_4 := bounds_u16 w1_4
  clear hA0 hval0
  refine (sampleDepthsAgree_walk a0 a1_0 a1_1 a1_2 a1_3 a1_4 W b0.1 b0.2 b1_0.1 b1_0.2 b1_1.1 b1_1.2 b1_2.1 b1_2.2 b1_3.1 b1_3.2 b1_4.1 b1_4.2).mono fun e W' ⟨he, hg⟩ => ?_
  subst he
  exact ⟨_, rfl, post_below (pv := []) hW' (fun _ _ _ => (trodAll_cons_mk (shut_bool Try.underlying4 _) trodAll_mk0)) (fun sp hsp => hB W' hg sp hsp) (fun _ _ => rfl) (by simp) hg (ok_one (by kernel_rfl) rfl (okWide_bool_mk Try.underlying4 _))⟩

theorem over : Rows.sampleDepthsAgreeRow.holds Try.pinned (OpenSpec.ofChange Rows.sampleDepthsAgreeSpec) :=
  OpenClaim.holds_of_wide 8 Try.f8 rfl rfl rfl rfl rfl rfl rfl ⟨rfl, rfl, rfl, rfl, rfl⟩ rfl rfl rfl rfl rfl (by kernel_rfl) Try.func8 (by kernel_rfl)
    (of_decide_eq_true (by kernel_rfl)) (by unfold Func.isWrapper; first | (rw [if_pos (by decide +kernel)]; kernel_rfl) | (rw [if_neg (by decide +kernel)]; exact ⟨rfl, rfl⟩))
    (fun os started H enc _ => lifted os started H enc)

theorem proved : Rows.SampleDepthsAgreeSaid :=
  over
#print axioms proved
end Go.Proofs.Ytmehclilgmigkaa.sampleDepthsAgree
