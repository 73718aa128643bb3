/- The frame of a law's proof, for arguments of any readable types: what the arguments hold is read again behind the call, because below the heap's old size nothing has turned. -/
import Derived.Test.YtdbemgjjahcabaaRows
import Derived.WalkKit
import Derived.ProofKit
import Derived.OpenShut
import Derived.Carry
import Derived.Deep.Strs
import Derived.Lib.SmallJoins
namespace Go.Proofs.Ytdbemgjjahcabaa
open Go.ChangeShapes Go.WideShapes Go.ChangeAt Go.RowKit Go.Deep

section
variable {H : Type} {enc : TypeId × Value → H} {P : Program}
/-- The row's last step where of the world behind the call 'Below' alone is known. -/
theorem post_below {f : Func} {s : ChangeSpec} {apart fresh handsOn again : Bool} {W W' : World} {args : Array Value} {v : Value} {ds gs : List (DataW H)} {before pa pv : List MemPlace}
    (hW : DataW.Whole enc P f.params.toList s.vars apart W args.toList ds gs before)
    (hres : ∀ (b : Nat) (sp : Nat → Bool) (hd : Bool), DataW.TrodAll enc P W' b sp hd f.resultTypes.toList (v.resultList f.resultTypes.size) (s.fn H (ds ++ gs)).results [])
    (hargs : ∀ sp : Nat → Bool, (∀ p ∈ before, sp p.block = true) → DataW.TrodAll enc P W' 0 sp true f.params.toList args.toList (s.fn H (ds ++ gs)).args pa)
    (hvars : ∀ sp : Nat → Bool, (∀ p ∈ before, sp p.block = true) → DataW.TrodVars enc P W' sp s.vars (s.fn H (ds ++ gs)).vars pv)
    (hps : before = pa ++ pv) (hb : Below W.heap.size W W')
    (hok : ∀ (j : Nat) (t : TypeId) (r : Value), f.resultTypes[j]? = some t → (v.resultList f.resultTypes.size)[j]? = some r → Value.okWide P W' .any 0 t r) :
    s.post enc P f apart fresh handsOn again W args v W' := by
  have hlt : ∀ p ∈ before, p.block < W.heap.size := fun p hp => hW.lt p hp
  have hold : ∀ p ∈ before, (fun b => decide (b < W.heap.size)) p.block = true := fun p hp => by simpa using hlt p hp
  refine ⟨ds, gs, before, [], pa, pv, hW, hres _ _ _, hargs _ hold, hvars _ hold, World.keptBut_mono (fun p hp => ⟨hp, ?_⟩) (hb.frame (· ∈ before)), fun _ => ?_⟩
  · rw [hps, List.mem_append] at hp
    exact Or.inr hp
  · obtain ⟨_, _, _, _, _, hz, hn⟩ := hW
    refine ⟨hok, _, _, ([] ++ pa) ++ pv, ⟨[] ++ pa, pv, trodAll_append (hargs _ (fun _ _ => rfl)) (hres _ _ _), hvars _ (fun _ _ => rfl), rfl, ?_, ?_⟩, ?_⟩
    · intro b off hp
      have hin : MemPlace.cell b off ∈ before := by rw [hps]; simpa using hp
      rw [hb.frozen (hlt _ hin)]
      exact hz b off hin
    · intro ha
      have := hn ha
      rw [hps] at this
      simpa using this
    · intro p hp _
      rw [hps]
      simpa using hp

/-- All arguments read as they did. -/
theorem trodAll_below (hl : laidOutB P = true) {W W' : World} (hb : Below W.heap.size W W') {sp : Nat → Bool} :
    ∀ (ts : List TypeId), ts.all (fun t => P.readableRec t && decide (t < P.types.size)) = true → ∀ (vs : List Value) (ds : List (DataW H)) (ps : List MemPlace),
      DataW.TrodAll enc P W 0 (fun _ => true) true ts vs ds ps → (∀ x ∈ ps, x.block < W.heap.size) → (∀ x ∈ ps, sp x.block = true) → DataW.TrodAll enc P W' 0 sp true ts vs ds ps
  | [], _, [], [], _, h, _, _ => h
  | [], _, _ :: _, _, _, h, _, _ => by simp [DataW.TrodAll] at h
  | [], _, [], _ :: _, _, h, _, _ => by simp [DataW.TrodAll] at h
  | t :: ts, ht, vs, ds, ps, h, hlt, hsp => by
    obtain ⟨v, vs', d, ds', p, q, rfl, rfl, rfl, h0, h1⟩ := trodAll_cons h
    simp only [List.all_cons, Bool.and_eq_true, decide_eq_true_eq] at ht
    refine ⟨p, q, ?_, ?_, rfl⟩
    · exact WideElems.Trod_stays hl ht.1.1 ht.1.2 h0 (fun x hx => hb.same (hlt x (List.mem_append_left _ hx))) (fun x hx => hsp x (List.mem_append_left _ hx))
    · exact trodAll_below hl hb ts ht.2 vs' ds' q h1 (fun x hx => hlt x (List.mem_append_right _ hx)) (fun x hx => hsp x (List.mem_append_right _ hx))

theorem ints_of_trod {w : World} {base : Nat} {spare : Nat → Bool} {held : Bool} {t e : TypeId} {n : Nat} {k : IntKind} {fuel : Nat} {cs : List Value} {x : DataW H × List MemPlace}
    (ht : P.underlying t = some (.array n e)) (he : P.underlying e = some (.int k)) (hc : P.cellsOf e = 1) (hC : P.cellsOf t = n)
    (h : DataW.trod enc P w base spare held fuel t cs = some x) :
    ∃ zs : List Int, cs = zs.map (Value.int k) ∧ zs.length = n ∧ ∀ z ∈ zs, (Lit.int k z).wf = true := by
  obtain ⟨xs, m, _, _, hlen, hxl, hi⟩ := DataW.trod_array ht h
  have key : ∀ i, i < n → ∃ z, cs[i]? = some (Value.int k z) ∧ (Lit.int k z).wf = true := by
    intro i him
    have h1 := hi i him
    rw [hc] at h1
    have hx : xs[i]? = some (xs[i]'(by omega)) := List.getElem?_eq_getElem (by omega)
    obtain ⟨z, hz, _, hw⟩ := DataW.trod_int he (h1.trans hx)
    refine ⟨z, ?_, hw⟩
    have e0 : cs[i]? = ((cs.drop (i * 1)).take 1)[0]? := by simp [List.getElem?_drop]
    rw [e0, hz]; rfl
  refine ⟨cs.map intOf, ?_, by simp; omega, ?_⟩
  · apply List.ext_getElem?
    intro i
    by_cases him : i < n
    · obtain ⟨z, hz, _⟩ := key i him
      simp [hz, intOf]
    · rw [List.getElem?_eq_none (by omega), List.getElem?_eq_none (by simp; omega)]
  · intro z hz
    obtain ⟨v, hv, rfl⟩ := List.mem_map.1 hz
    obtain ⟨i, hil, hiv⟩ := List.getElem_of_mem hv
    obtain ⟨z', hz', hw⟩ := key i (by omega)
    rw [List.getElem?_eq_getElem hil, hiv] at hz'
    simp only [Option.some.injEq] at hz'
    subst hz'
    simpa [intOf] using hw

theorem okWide_array {w : World} {r : Reach} {b0 : Nat} {t e : TypeId} {n : Nat} {v : Value} (ht : P.underlying t = some (.array n e)) (h : Value.okWide P w r b0 t v) : ∃ cs, v = .agg cs ∧ cs.size = P.cellsOf t := by
  simp only [Value.okWide, ht] at h
  obtain ⟨cs, h1, h2, _⟩ := h
  exact ⟨cs, h1, h2⟩

theorem open_arr_ints {w : World} {base : Nat} {spare : Nat → Bool} {held : Bool} {r : Reach} {b0 : Nat} {t e : TypeId} {n : Nat} {k : IntKind} {v : Value} {d : DataW H} {p : List MemPlace}
    (ht : P.underlying t = some (.array n e)) (he : P.underlying e = some (.int k)) (hc : P.cellsOf e = 1) (hC : P.cellsOf t = n)
    (hv : Value.okWide P w r b0 t v) (h : DataW.Trod enc P w base spare held t v d p) :
    ∃ zs : List Int, v = .agg (zs.map (Value.int k)).toArray ∧ zs.length = n ∧ ∀ z ∈ zs, (Lit.int k z).wf = true := by
  obtain ⟨⟨cs⟩, rfl, hsz⟩ := okWide_array ht hv
  obtain ⟨fuel, hf⟩ := h
  obtain ⟨zs, hz, hl, hw⟩ := ints_of_trod ht he hc hC hf
  simp only [Value.cells] at hz
  exact ⟨zs, by rw [hz], hl, hw⟩

/-- a struct of an array of three, and two numbers, all of one kind -/
theorem open_pixel {w : World} {base : Nat} {spare : Nat → Bool} {held : Bool} {r : Reach} {b0 : Nat} {t tc e : TypeId} {k : IntKind} {f0 f1 f2 : Field} {v : Value} {d : DataW H} {p : List MemPlace}
    (ht : P.underlying t = some (.struct #[f0, f1, f2])) (e0 : f0.type = tc) (e1 : f1.type = e) (e2 : f2.type = e) (o0 : f0.offset = 0) (o1 : f1.offset = 3) (o2 : f2.offset = 4)
    (hc : P.underlying tc = some (.array 3 e)) (he : P.underlying e = some (.int k)) (hce : P.cellsOf e = 1) (hcc : P.cellsOf tc = 3) (hC : P.cellsOf t = 5)
    (hv : Value.okWide P w r b0 t v) (h : DataW.Trod enc P w base spare held t v d p) :
    ∃ x y z a f : Int, v = .agg #[.int k x, .int k y, .int k z, .int k a, .int k f] ∧ (Lit.int k x).wf = true ∧ (Lit.int k y).wf = true ∧ (Lit.int k z).wf = true ∧ (Lit.int k a).wf = true ∧ (Lit.int k f).wf = true := by
  obtain ⟨⟨cs⟩, rfl, hsz⟩ := okWide_struct ht hv
  obtain ⟨fuel, hf⟩ := h
  obtain ⟨y0, y1, y2, n, _, hl, h0, h1, h2⟩ := trod_struct3 ht hf
  rw [e0, o0, hcc] at h0
  rw [e1, o1, hce] at h1
  rw [e2, o2, hce] at h2
  simp only [Value.cells] at hl h0 h1 h2
  rw [hC] at hl
  match cs, hl with
  | [c0, c1, c2, c3, c4], _ =>
    obtain ⟨zs, hz, hzl, hw⟩ := ints_of_trod hc he hce hcc h0
    obtain ⟨a, ha, _, wa⟩ := DataW.trod_int he h1
    obtain ⟨b, hb, _, wb⟩ := DataW.trod_int he h2
    match zs, hzl with
    | [x, y, z], _ =>
      simp at hz ha hb
      obtain ⟨rfl, rfl, rfl⟩ := hz
      subst ha hb
      exact ⟨x, y, z, a, b, rfl, hw x (by simp), hw y (by simp), hw z (by simp), wa, wb⟩

theorem list2 {zs : List Int} (h : zs.length = 2) : ∃ a b, zs = [a, b] := by
  match zs, h with | [a, b], _ => exact ⟨a, b, rfl⟩
theorem list4 {zs : List Int} (h : zs.length = 4) : ∃ a b c d, zs = [a, b, c, d] := by
  match zs, h with | [a, b, c, d], _ => exact ⟨a, b, c, d, rfl⟩
theorem list5 {zs : List Int} (h : zs.length = 5) : ∃ a b c d e, zs = [a, b, c, d, e] := by
  match zs, h with | [a, b, c, d, e], _ => exact ⟨a, b, c, d, e, rfl⟩
/-- a struct of two numbers of one kind -/
theorem open_pair {w : World} {base : Nat} {spare : Nat → Bool} {held : Bool} {r : Reach} {b0 : Nat} {t e : TypeId} {k : IntKind} {f0 f1 : Field} {v : Value} {d : DataW H} {p : List MemPlace}
    (ht : P.underlying t = some (.struct #[f0, f1])) (e0 : f0.type = e) (e1 : f1.type = e) (he : P.underlying e = some (.int k)) (hone : oneCellFields P #[f0, f1] = true) (hC : P.cellsOf t = 2)
    (hv : Value.okWide P w r b0 t v) (h : DataW.Trod enc P w base spare held t v d p) :
    ∃ x y : Int, v = .agg #[.int k x, .int k y] ∧ (Lit.int k x).wf = true ∧ (Lit.int k y).wf = true := by
  obtain ⟨v0, v1, y0, y1, n, rfl, _, _, h0, h1⟩ := Joins.open_agg2 ht hone hC hv h
  rw [e0] at h0
  rw [e1] at h1
  obtain ⟨x, hx, _, wx⟩ := DataW.trod_int he h0
  obtain ⟨y, hy, _, wy⟩ := DataW.trod_int he h1
  simp at hx hy
  subst hx hy
  exact ⟨x, y, rfl, wx, wy⟩
end
end Go.Proofs.Ytdbemgjjahcabaa
