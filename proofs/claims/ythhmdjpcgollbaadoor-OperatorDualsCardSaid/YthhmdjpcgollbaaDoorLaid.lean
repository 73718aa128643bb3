/- What the card says of operator.rules, as cells of memory: 52 cells, four a rule. -/
import Derived.Test.YthhmdjpcgollbaaDoorFrame
import Derived.LaidMore
import Derived.LaidLaws
import Derived.Stop.Joined
namespace Go.Proofs.YthhmdjpcgollbaaDoor
open Go.ChangeShapes Go.WideShapes Go.ChangeAt Go.RowKit Go.Deep Go.Joins

def ruleCells : List Value := [.string ⟨#[]⟩, .int .i64 0, .int .i64 0, .int .i64 0, .string ⟨#[99, 108, 101, 97, 114]⟩, .int .i64 0, .int .i64 0, .int .i64 0, .string ⟨#[115, 114, 99]⟩, .int .i64 1, .int .i64 0, .int .i64 1, .string ⟨#[100, 115, 116]⟩, .int .i64 0, .int .i64 1, .int .i64 2, .string ⟨#[115, 114, 99, 45, 111, 118, 101, 114]⟩, .int .i64 1, .int .i64 3, .int .i64 3, .string ⟨#[100, 115, 116, 45, 111, 118, 101, 114]⟩, .int .i64 3, .int .i64 1, .int .i64 3, .string ⟨#[115, 114, 99, 45, 105, 110]⟩, .int .i64 2, .int .i64 0, .int .i64 4, .string ⟨#[100, 115, 116, 45, 105, 110]⟩, .int .i64 0, .int .i64 2, .int .i64 4, .string ⟨#[115, 114, 99, 45, 111, 117, 116]⟩, .int .i64 3, .int .i64 0, .int .i64 1, .string ⟨#[100, 115, 116, 45, 111, 117, 116]⟩, .int .i64 0, .int .i64 3, .int .i64 2, .string ⟨#[115, 114, 99, 45, 97, 116, 111, 112]⟩, .int .i64 2, .int .i64 3, .int .i64 2, .string ⟨#[100, 115, 116, 45, 97, 116, 111, 112]⟩, .int .i64 3, .int .i64 2, .int .i64 1, .string ⟨#[120, 111, 114]⟩, .int .i64 3, .int .i64 3, .int .i64 3]
/-- The table as it lies in memory. -/
def Ruled (w : World) : Prop := ∃ T fr, w.heap[0]? = some (.cells ruleCells.toArray T fr)

theorem gRules : Tryd.prog.globalNamed "compositor/operator.rules" = some 0 := by kernel_rfl
theorem tRules : (Tryd.prog.globals[0]?).map (·.type) = some 53 := by kernel_rfl

section
variable {H : Type} {enc : TypeId × Value → H}
theorem rule_cells {w : World} {base : Nat} {sp : Nat → Bool} {held : Bool} {fuel : Nat} {cs : List Value} {y : DataW H × List MemPlace} {b : List UInt8} {x1 x2 x3 : Int}
    (h : DataW.trod enc Tryd.prog w base sp held fuel 48 cs = some y) (hy : y.1 = .agg [.lit (.string b), .lit (.int .i64 x1), .lit (.int .i64 x2), .lit (.int .i64 x3)]) :
    cs = [.string ⟨b.toArray⟩, .int .i64 x1, .int .i64 x2, .int .i64 x3] := by
  obtain ⟨y0, y1, y2, y3, n, rfl, hl, h0, h1, h2, h3⟩ := trod_struct4 Tryd.underlying48 h
  have c9 : Tryd.prog.cellsOf 9 = 1 := by kernel_rfl
  have c3 : Tryd.prog.cellsOf 3 = 1 := by kernel_rfl
  have cR : Tryd.prog.cellsOf 48 = 4 := by kernel_rfl
  rw [cR] at hl
  match cs, hl with
  | [a0, a1, a2, a3], _ =>
    simp only [c9, c3] at h0 h1 h2 h3
    obtain ⟨s, e0, rfl, _⟩ := DataW.trod_string Tryd.underlying9 h0
    obtain ⟨z1, e1, rfl, _⟩ := DataW.trod_int Tryd.underlying3 h1
    obtain ⟨z2, e2, rfl, _⟩ := DataW.trod_int Tryd.underlying3 h2
    obtain ⟨z3, e3, rfl, _⟩ := DataW.trod_int Tryd.underlying3 h3
    simp at hy e0 e1 e2 e3
    obtain ⟨hb, rfl, rfl, rfl⟩ := hy
    subst e0 e1 e2 e3
    have : s = ⟨b.toArray⟩ := by
      obtain ⟨⟨l⟩⟩ := s
      simp at hb
      subst hb; rfl
    rw [this]

theorem list13 {α : Type} {zs : List α} (h : zs.length = 13) : ∃ a0 a1 a2 a3 a4 a5 a6 a7 a8 a9 a10 a11 a12, zs = [a0, a1, a2, a3, a4, a5, a6, a7, a8, a9, a10, a11, a12] := by
  match zs, h with | [a0, a1, a2, a3, a4, a5, a6, a7, a8, a9, a10, a11, a12], _ => exact ⟨a0, a1, a2, a3, a4, a5, a6, a7, a8, a9, a10, a11, a12, rfl⟩
theorem chunks4 {α : Type} (cs : List α) (k : Nat) (h : cs.length = 4 * (k + 1)) : cs = cs.take (4 * k) ++ (cs.drop (4 * k)).take 4 := by
  rw [List.take_of_length_le (l := cs.drop (4 * k)) (by simp; omega), List.take_append_drop]

theorem table_cells {w : World} {base : Nat} {sp : Nat → Bool} {held : Bool} {fuel : Nat} {cs : List Value} {p : List MemPlace}
    (h : DataW.trod enc Tryd.prog w base sp held fuel 53 cs = some (Rows.laid_compositor_operator_rules, p)) : cs = ruleCells := by
  obtain ⟨xs, m, _, hx, hlen, hn, hel⟩ := DataW.trod_array Tryd.underlying53 h
  have cR : Tryd.prog.cellsOf 48 = 4 := by kernel_rfl
  have cA : Tryd.prog.cellsOf 53 = 52 := by kernel_rfl
  simp only [Prod.mk.injEq, Rows.laid_compositor_operator_rules, DataW.agg.injEq] at hx
  obtain ⟨a0, a1, a2, a3, a4, a5, a6, a7, a8, a9, a10, a11, a12, rfl⟩ := list13 hn
  simp only [List.map_cons, List.map_nil, List.cons.injEq] at hx
  obtain ⟨⟨x0, x1, x2, x3, x4, x5, x6, x7, x8, x9, x10, x11, x12, _⟩, _⟩ := hx
  rw [cR] at hel
  have k0 := rule_cells (hel 0 (by decide)) x0.symm
  have k1 := rule_cells (hel 1 (by decide)) x1.symm
  have k2 := rule_cells (hel 2 (by decide)) x2.symm
  have k3 := rule_cells (hel 3 (by decide)) x3.symm
  have k4 := rule_cells (hel 4 (by decide)) x4.symm
  have k5 := rule_cells (hel 5 (by decide)) x5.symm
  have k6 := rule_cells (hel 6 (by decide)) x6.symm
  have k7 := rule_cells (hel 7 (by decide)) x7.symm
  have k8 := rule_cells (hel 8 (by decide)) x8.symm
  have k9 := rule_cells (hel 9 (by decide)) x9.symm
  have k10 := rule_cells (hel 10 (by decide)) x10.symm
  have k11 := rule_cells (hel 11 (by decide)) x11.symm
  have k12 := rule_cells (hel 12 (by decide)) x12.symm
  have hl : cs.length = 52 := by omega
  have step : ∀ (k : Nat) (l : List Value), (cs.drop (k * 4)).take 4 = l → cs.drop (k * 4) = l ++ cs.drop ((k + 1) * 4) := by
    intro k l h
    have h2 := List.take_append_drop 4 (cs.drop (k * 4))
    rw [h, List.drop_drop] at h2
    rw [← h2, show k * 4 + 4 = (k + 1) * 4 by omega]
  have e : cs = cs.drop (0 * 4) := rfl
  rw [e, step 0 _ k0, step 1 _ k1, step 2 _ k2, step 3 _ k3, step 4 _ k4, step 5 _ k5, step 6 _ k6, step 7 _ k7, step 8 _ k8, step 9 _ k9, step 10 _ k10, step 11 _ k11, step 12 _ k12, List.drop_of_length_le (by omega)]
  rfl
end
theorem ruled_of_laid {W : World} (h : laidMetH Tryd.prog [("compositor/operator.rules", Rows.laid_compositor_operator_rules)] W) : Ruled W := by
  rw [MakeChecks.laidMetH_plain _ _ _ (by kernel_rfl)] at h
  obtain ⟨ps, ⟨g0, t0, cs0, f0, p0, q0, hg0, ht0, hv0, hd0, _, _⟩, _, _⟩ := h
  obtain rfl := Option.some.inj (gRules.symm.trans hg0)
  obtain rfl := Option.some.inj (tRules.symm.trans ht0)
  have hc := table_cells hd0
  obtain ⟨l⟩ := cs0
  simp only at hc
  subst hc
  simp only [World.var?, gRules, Option.bind_some] at hv0
  unfold Ruled
  split at hv0
  · rename_i T fr hh
    simp only [Option.some.injEq] at hv0
    subst hv0
    exact ⟨_, _, hh⟩
  · cases hv0

theorem door_met (os : Os) (args : Array Value) : laidMetH Tryd.prog [("compositor/operator.rules", Rows.laid_compositor_operator_rules)] ((World.doorLaid Tryd.prog 400 os).forCall (fun _ _ => 0) ⟨#[], args, []⟩).memory :=
  laidMetH_of_parts3 (fuel := 8) (laidMet_of_run' 8 (by kernel_rfl) (by kernel_rfl)) (by kernel_rfl) (by kernel_rfl)
end Go.Proofs.YthhmdjpcgollbaaDoor

