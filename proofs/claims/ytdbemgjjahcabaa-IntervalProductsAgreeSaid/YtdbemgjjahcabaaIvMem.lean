/- What blocks of a function over intervals hold; worlds with new blocks. -/
import Derived.Test.YtdbemgjjahcabaaIv
import Derived.Test.YtdbemgjjahcabaaTail
namespace Go.Proofs.Ytdbemgjjahcabaa
open Go.RowKit
set_option linter.unusedVariables false

theorem calls_more_o {P : Program} {f : FuncId} {args : Array Value} {w : World} {p : Extra} {v : Value} {o : Obj} (h : Calls P f args (more w p) fun e w' => e = .returned v ∧ (more w p).alloc o = w') :
    Calls P f args (more w p) fun e w'' => e = .returned v ∧ ∃ q, w'' = more w q :=
  h.mono fun _ _ ⟨he, hq⟩ => ⟨he, _, hq.symm.trans (more_alloc w p o)⟩
/-- block g holds an interval -/
def Iv2 (W : World) (g : Nat) (l h : Int) : Prop := g < W.heap.size ∧ W.cell? ⟨g, 0, none⟩ = some (.int .i64 l) ∧ W.cell? ⟨g, 1, none⟩ = some (.int .i64 h) ∧ W.heap[g]? = some (ivO l h)
/-- block g is a new one whose cells may be written -/
def Out2 (w W : World) (g : Nat) : Prop := W.frozen? ⟨g, 0, none⟩ = false ∧ W.frozen? ⟨g, 1, none⟩ = false ∧ ∀ (p : Extra) (u v : Value), ∃ q, ((more W p).setCell ⟨g, 0, none⟩ u).setCell ⟨g, 1, none⟩ v = more w q
theorem iv_of {W : World} {g : Nat} {l h : Int} (e : W.heap[g]? = some (ivO l h)) : Iv2 W g l h := by
  have hg : g < W.heap.size := by
    rcases Nat.lt_or_ge g W.heap.size with h1 | h1
    · exact h1
    · simp [h1] at e
  refine ⟨hg, ?_, ?_, e⟩
  · simp [World.cell?, e]
  · simp [World.cell?, e]
theorem at_new {W : World} {o : Obj} {g : Nat} (h : g = W.heap.size) : (W.alloc o).heap[g]? = some o := by subst h; show (W.heap.push o)[W.heap.size]? = some o; simp
theorem at_old {W : World} {o v : Obj} {g : Nat} (h : W.heap[g]? = some v) : (W.alloc o).heap[g]? = some v := by
  have hg : g < W.heap.size := by
    rcases Nat.lt_or_ge g W.heap.size with h1 | h1
    · exact h1
    · simp [h1] at h
  rw [← h]
  exact more_heap W ⟨[o], 0⟩ g hg
theorem at_drew {W : World} {n : Nat} {v : Obj} {g : Nat} (h : W.heap[g]? = some v) : (W.drewN n).heap[g]? = some v := h
/-- the last block of a world made of w -/
theorem out_new (w : World) (os : List Obj) (n : Nat) (l h : Int) (t : TypeId) {g : Nat} (hg : g = w.heap.size + os.length) : Out2 w ((more w ⟨os, n⟩).alloc (.cells #[.int .i64 l, .int .i64 h] t)) g := by
  have hs : g = (more w ⟨os, n⟩).heap.size := by rw [more_size]; exact hg
  refine ⟨World.frozen?_alloc_at _ _ _ _ hs, World.frozen?_alloc_at _ _ _ _ hs, fun p u v => ?_⟩
  have hlt : g < ((more w ⟨os, n⟩).alloc (.cells #[.int .i64 l, .int .i64 h] t)).heap.size := by simp [hs]
  rw [more_setCell _ _ _ _ _ hlt, more_setCell _ _ _ _ _ (by rw [size_setCell]; exact hlt), World.setCell_alloc_at _ _ _ _ _ hs, World.setCell_alloc_at _ _ _ _ _ hs, more_alloc, more_more]
  exact ⟨_, rfl⟩
theorem mores {w W W' : World} (h : ∃ q, W = more w q) (h' : ∃ q, W' = more W q) : ∃ q, W' = more w q := more_to h h'
theorem more_ex {w W : World} {q : Extra} (h : ∃ p, more w q = more W p) : ∃ p, more w q = more W p := h
/-- two boxes and a block for the result -/
def F3 (w W : World) (xl xh yl yh : Int) : Prop := Iv2 W w.heap.size xl xh ∧ Iv2 W (w.heap.size + 1) yl yh ∧ Iv2 W (w.heap.size + 1 + 1) 0 0 ∧ Out2 w W (w.heap.size + 1 + 1)
theorem f3_of (w : World) (xl xh yl yh : Int) : F3 w (((w.alloc (ivO xl xh)).alloc (ivO yl yh)).alloc (ivO 0 0)) xl xh yl yh :=
  ⟨iv_of (at_old (at_old (at_new rfl))), iv_of (at_old (at_new (by simp))), iv_of (at_new (by simp)), out_new w [_, _] 0 0 0 _ (by simp)⟩
/-- one box and a block for the result -/
def F2 (w W : World) (xl xh : Int) : Prop := Iv2 W w.heap.size xl xh ∧ Iv2 W (w.heap.size + 1) 0 0 ∧ Out2 w W (w.heap.size + 1)
theorem f2_of (w : World) (xl xh : Int) : F2 w ((w.alloc (ivO xl xh)).alloc (ivO 0 0)) xl xh :=
  ⟨iv_of (at_old (at_new rfl)), iv_of (at_new (by simp)), out_new w [_] 0 0 0 _ (by simp)⟩
/-- a block for the result -/
def F1 (w W : World) : Prop := Iv2 W w.heap.size 0 0 ∧ Out2 w W w.heap.size
theorem f1_of (w : World) : F1 w (w.alloc (ivO 0 0)) := ⟨iv_of (at_new rfl), out_new w [] 0 0 0 _ (by simp)⟩

/-- a world that is w with new blocks and draws -/
def Ext (w W : World) : Prop := ∃ q, W = more w q
theorem Ext.refl (w : World) : Ext w w := ⟨⟨[], 0⟩, rfl⟩
theorem Ext.alloc {w W : World} (h : Ext w W) (o : Obj) : Ext w (W.alloc o) := by obtain ⟨q, rfl⟩ := h; exact ⟨_, more_alloc w q o⟩
theorem Ext.drewN {w W : World} (h : Ext w W) (n : Nat) : Ext w (W.drewN n) := by obtain ⟨q, rfl⟩ := h; exact ⟨_, more_drewN w q n⟩
theorem Ext.mored {w W : World} (h : Ext w W) (p : Extra) : Ext w (more W p) := by obtain ⟨q, rfl⟩ := h; exact ⟨_, more_more w q p⟩
theorem Ext.trans {w W W' : World} (h : Ext w W) (h' : Ext W W') : Ext w W' := more_to h h'
theorem Ext.size {w W : World} (h : Ext w W) : w.heap.size ≤ W.heap.size := by obtain ⟨q, rfl⟩ := h; rw [more_size]; omega
theorem foldl_parts (os : List Obj) (w : World) : (os.foldl World.alloc w).heap = w.heap ++ os.toArray ∧ (os.foldl World.alloc w).tape = w.tape ∧ (os.foldl World.alloc w).drawn = w.drawn ∧ (os.foldl World.alloc w).os = w.os ∧ (os.foldl World.alloc w).output = w.output := by
  induction os generalizing w with
  | nil => exact ⟨by simp, rfl, rfl, rfl, rfl⟩
  | cons o os ih =>
    obtain ⟨h1, h2, h3, h4, h5⟩ := ih (w.alloc o)
    refine ⟨?_, h2, h3, h4, h5⟩
    rw [List.foldl_cons, h1]
    show w.heap.push o ++ os.toArray = w.heap ++ (o :: os).toArray
    apply Array.ext'
    simp
theorem Ext.of {w W : World} (hb : Below w.heap.size w W) (hd : w.drawn ≤ W.drawn) : Ext w W := by
  refine ⟨⟨W.heap.toList.drop w.heap.size, W.drawn - w.drawn⟩, ?_⟩
  obtain ⟨h1, h2, h3, h4, h5⟩ := foldl_parts (W.heap.toList.drop w.heap.size) w
  have e : ((W.heap.toList.drop w.heap.size).foldl World.alloc w).heap = W.heap := by
    rw [h1]
    apply Array.ext_getElem?
    intro k
    rcases Nat.lt_or_ge k w.heap.size with hk | hk
    · rw [hb.block k hk, Array.getElem?_append_left hk]
    · rw [Array.getElem?_append_right hk]
      simp
      congr 1
      omega
  have key : ∀ (V : World) (n : Nat), V.heap = W.heap → V.tape = W.tape → V.drawn + n = W.drawn → V.os = W.os → V.output = W.output → W = V.drewN n := by
    intro V n g1 g2 g3 g4 g5
    cases V
    cases W
    simp only at g1 g2 g3 g4 g5
    subst g1 g2 g3 g4 g5
    rfl
  exact key _ _ e (h2.trans hb.tape.symm) (by rw [h3]; show w.drawn + (W.drawn - w.drawn) = _; omega) (h4.trans hb.os.symm) (h5.trans hb.output.symm)
theorem Ext.setCell {w W : World} (h : Ext w W) {g i : Nat} (hg : w.heap.size ≤ g) (v : Value) : Ext w (W.setCell ⟨g, i, none⟩ v) := by
  obtain ⟨q, rfl⟩ := h
  have hb := more_below w q
  refine Ext.of ⟨hb.os, hb.tape, hb.output, ?_, fun b hb' => ?_⟩ ?_
  · rw [size_setCell]; exact hb.size
  · show ((more w q).heap.modify g _)[b]? = _
    rw [Array.getElem?_modify, if_neg (by omega)]
    exact hb.block b hb'
  · show w.drawn ≤ (more w q).drawn
    obtain ⟨os, n⟩ := q
    show w.drawn ≤ (os.foldl World.alloc w).drawn + n
    rw [(foldl_parts os w).2.2.1]; omega
/-- what a block holds behind two stores, and behind a store elsewhere -/
theorem heap_set2 {W : World} {g : Nat} {l h u v : Int} (e : W.heap[g]? = some (ivO l h)) : ((W.setCell ⟨g, 0, none⟩ (.int .i64 u)).setCell ⟨g, 1, none⟩ (.int .i64 v)).heap[g]? = some (ivO u v) := by
  unfold World.setCell
  simp only [Array.getElem?_modify, if_true, e]
  rfl
theorem heap_set_other {W : World} {g b i : Nat} {x : Option Obj} (v : Value) (hne : b ≠ g) (e : W.heap[g]? = x) : (W.setCell ⟨b, i, none⟩ v).heap[g]? = x := by
  show (W.heap.modify b _)[g]? = _
  rw [Array.getElem?_modify, if_neg hne]
  exact e
theorem froz_of {W : World} {g i : Nat} {l h : Int} (e : W.heap[g]? = some (ivO l h)) : W.frozen? ⟨g, i, none⟩ = false := by
  unfold World.frozen?
  rw [e]
  simp
end Go.Proofs.Ytdbemgjjahcabaa
