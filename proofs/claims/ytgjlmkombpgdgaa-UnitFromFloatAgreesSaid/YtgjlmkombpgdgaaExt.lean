/- Worlds with new blocks and draws; what a block holds: words without a type's number. -/
import Derived.Test.YtgjlmkombpgdgaaTail
namespace Go.Proofs.Ytgjlmkombpgdgaa
open Go.RowKit
set_option linter.unusedVariables false

theorem calls_more_o {P : Program} {f : FuncId} {args : Array Value} {w : World} {p : Extra} {v : Value} {o : Obj} (h : Calls P f args (more w p) fun e w' => e = .returned v ∧ (more w p).alloc o = w') :
    Calls P f args (more w p) fun e w'' => e = .returned v ∧ ∃ q, w'' = more w q :=
  h.mono fun _ _ ⟨he, hq⟩ => ⟨he, _, hq.symm.trans (more_alloc w p o)⟩
theorem at_new {W : World} {o : Obj} {g : Nat} (h : g = W.heap.size) : (W.alloc o).heap[g]? = some o := by subst h; show (W.heap.push o)[W.heap.size]? = some o; simp
theorem at_old {W : World} {o v : Obj} {g : Nat} (h : W.heap[g]? = some v) : (W.alloc o).heap[g]? = some v := by
  have hg : g < W.heap.size := by
    rcases Nat.lt_or_ge g W.heap.size with h1 | h1
    · exact h1
    · simp [h1] at h
  rw [← h]
  exact more_heap W ⟨[o], 0⟩ g hg
theorem at_drew {W : World} {n : Nat} {v : Obj} {g : Nat} (h : W.heap[g]? = some v) : (W.drewN n).heap[g]? = some v := h
/-- a world that is w with new blocks and draws -/
def Ext (w W : World) : Prop := ∃ q, W = more w q
theorem Ext.refl (w : World) : Ext w w := ⟨⟨[], 0⟩, rfl⟩
theorem Ext.alloc {w W : World} (h : Ext w W) (o : Obj) : Ext w (W.alloc o) := by obtain ⟨q, rfl⟩ := h; exact ⟨_, more_alloc w q o⟩
theorem Ext.drewN {w W : World} (h : Ext w W) (n : Nat) : Ext w (W.drewN n) := by obtain ⟨q, rfl⟩ := h; exact ⟨_, more_drewN w q n⟩
theorem Ext.mored {w W : World} (h : Ext w W) (p : Extra) : Ext w (more W p) := by obtain ⟨q, rfl⟩ := h; exact ⟨_, more_more w q p⟩
theorem Ext.trans {w W W' : World} (h : Ext w W) (h' : Ext W W') : Ext w W' := more_to h h'
theorem Ext.size {w W : World} (h : Ext w W) : w.heap.size ≤ W.heap.size := by obtain ⟨q, rfl⟩ := h; rw [more_size]; omega
theorem foldl_parts (os : List Obj) (w : World) : (os.foldl World.alloc w).heap = w.heap ++ os.toArray ∧ (os.foldl World.alloc w).tape = w.tape ∧ (os.foldl World.alloc w).drawn = w.drawn ∧ (os.foldl World.alloc w).os = w.os ∧ (os.foldl World.alloc w).output = w.output := by
  induction os generalizing w with
  | nil => exact ⟨by simp, rfl, rfl, rfl, rfl⟩
  | cons o os ih =>
    obtain ⟨h1, h2, h3, h4, h5⟩ := ih (w.alloc o)
    refine ⟨?_, h2, h3, h4, h5⟩
    rw [List.foldl_cons, h1]
    show w.heap.push o ++ os.toArray = w.heap ++ (o :: os).toArray
    apply Array.ext'
    simp
theorem Ext.of {w W : World} (hb : Below w.heap.size w W) (hd : w.drawn ≤ W.drawn) : Ext w W := by
  refine ⟨⟨W.heap.toList.drop w.heap.size, W.drawn - w.drawn⟩, ?_⟩
  obtain ⟨h1, h2, h3, h4, h5⟩ := foldl_parts (W.heap.toList.drop w.heap.size) w
  have e : ((W.heap.toList.drop w.heap.size).foldl World.alloc w).heap = W.heap := by
    rw [h1]
    apply Array.ext_getElem?
    intro k
    rcases Nat.lt_or_ge k w.heap.size with hk | hk
    · rw [hb.block k hk, Array.getElem?_append_left hk]
    · rw [Array.getElem?_append_right hk]
      simp
      congr 1
      omega
  have key : ∀ (V : World) (n : Nat), V.heap = W.heap → V.tape = W.tape → V.drawn + n = W.drawn → V.os = W.os → V.output = W.output → W = V.drewN n := by
    intro V n g1 g2 g3 g4 g5
    cases V
    cases W
    simp only at g1 g2 g3 g4 g5
    subst g1 g2 g3 g4 g5
    rfl
  exact key _ _ e (h2.trans hb.tape.symm) (by rw [h3]; show w.drawn + (W.drawn - w.drawn) = _; omega) (h4.trans hb.os.symm) (h5.trans hb.output.symm)
theorem Ext.setCell {w W : World} (h : Ext w W) {g i : Nat} (hg : w.heap.size ≤ g) (v : Value) : Ext w (W.setCell ⟨g, i, none⟩ v) := by
  obtain ⟨q, rfl⟩ := h
  have hb := more_below w q
  refine Ext.of ⟨hb.os, hb.tape, hb.output, ?_, fun b hb' => ?_⟩ ?_
  · rw [size_setCell]; exact hb.size
  · show ((more w q).heap.modify g _)[b]? = _
    rw [Array.getElem?_modify, if_neg (by omega)]
    exact hb.block b hb'
  · show w.drawn ≤ (more w q).drawn
    obtain ⟨os, n⟩ := q
    show w.drawn ≤ (os.foldl World.alloc w).drawn + n
    rw [(foldl_parts os w).2.2.1]; omega
theorem heap_set_other {W : World} {g b i : Nat} {x : Option Obj} (v : Value) (hne : b ≠ g) (e : W.heap[g]? = x) : (W.setCell ⟨b, i, none⟩ v).heap[g]? = x := by
  show (W.heap.modify b _)[g]? = _
  rw [Array.getElem?_modify, if_neg hne]
  exact e
theorem at_more {W : World} {p : Extra} {g : Nat} {v : Obj} (h : W.heap[g]? = some v) : (more W p).heap[g]? = some v := by
  have hg : g < W.heap.size := by
    rcases Nat.lt_or_ge g W.heap.size with h1 | h1
    · exact h1
    · simp [h1] at h
  rw [← h]
  exact more_heap W p g hg
theorem at_drew1 {W : World} {g : Nat} {v : Obj} (h : W.heap[g]? = some v) : W.drew.heap[g]? = some v := h
theorem ext_drew (w : World) : Ext w w.drew := ⟨⟨[], 1⟩, rfl⟩
theorem ext_drewW {w W : World} (h : Ext w W) : Ext w W.drew := h.drewN 1
theorem at_ext {w W : World} {g : Nat} {v : Obj} (h : Ext w W) (e : w.heap[g]? = some v) : W.heap[g]? = some v := by
  obtain ⟨q, rfl⟩ := h; exact at_more e
theorem Ext.below' {w W : World} (h : Ext w W) : Below w.heap.size w W := by obtain ⟨q, rfl⟩ := h; exact more_below w q
theorem lt_of_heap {W : World} {g : Nat} {o : Obj} (e : W.heap[g]? = some o) : g < W.heap.size := by
  rcases Nat.lt_or_ge g W.heap.size with h1 | h1
  · exact h1
  · simp [h1] at e
theorem froz_cells {W : World} {g i : Nat} {vs : Array Value} {t : TypeId} (e : W.heap[g]? = some (.cells vs t)) : W.frozen? ⟨g, i, none⟩ = false := by
  unfold World.frozen?
  rw [e]
  simp
theorem heap_set {W : World} {g i : Nat} {vs : Array Value} {t : TypeId} (v : Value) (e : W.heap[g]? = some (.cells vs t)) : (W.setCell ⟨g, i, none⟩ v).heap[g]? = some (.cells (vs.setIfInBounds i v) t) := by
  unfold World.setCell
  simp only [Array.getElem?_modify, if_true, e]
  rfl
end Go.Proofs.Ytgjlmkombpgdgaa
