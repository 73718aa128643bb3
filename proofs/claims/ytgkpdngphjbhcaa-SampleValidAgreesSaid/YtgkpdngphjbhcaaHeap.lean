/- What a new block holds, and a block that holds a pixel. -/
import Derived.Test.YtgkpdngphjbhcaaMore
namespace Go.Proofs.Ytgkpdngphjbhcaa
open Go.RowKit
theorem calls_more_valid {P : Program} {f : FuncId} {args : Array Value} {w : World} {p : Extra} {v : Value} {o : Obj} (h : Calls P f args (more w p) fun e w' => e = .returned v ∧ (more w p).alloc o = w') :
    Calls P f args (more w p) fun e w'' => e = .returned v ∧ ∃ q, w'' = more w q :=
  h.mono fun _ _ ⟨he, hq⟩ => ⟨he, _, hq.symm.trans (more_alloc w p o)⟩
theorem at_new {W : World} {o : Obj} {g : Nat} (h : g = W.heap.size) : (W.alloc o).heap[g]? = some o := by subst h; show (W.heap.push o)[W.heap.size]? = some o; simp
theorem at_old {W : World} {o v : Obj} {g : Nat} (h : W.heap[g]? = some v) : (W.alloc o).heap[g]? = some v := by
  have hg : g < W.heap.size := by
    rcases Nat.lt_or_ge g W.heap.size with h1 | h1
    · exact h1
    · simp [h1] at h
  rw [← h]
  exact more_heap W ⟨[o], 0⟩ g hg
theorem at_drew {W : World} {n : Nat} {v : Obj} {g : Nat} (h : W.heap[g]? = some v) : (W.drewN n).heap[g]? = some v := h
/-- block g holds a pixel -/
def Pix5 (w : World) (g : Nat) (x y z a f : Int) : Prop :=
  w.cell? ⟨g, 0, none⟩ = some (.int .u16 x) ∧ w.cell? ⟨g, 1, none⟩ = some (.int .u16 y) ∧ w.cell? ⟨g, 2, none⟩ = some (.int .u16 z) ∧ w.cell? ⟨g, 3, none⟩ = some (.int .u16 a) ∧ w.cell? ⟨g, 4, none⟩ = some (.int .u16 f) ∧
  w.heap[g]? = some (.cells #[.int .u16 x, .int .u16 y, .int .u16 z, .int .u16 a, .int .u16 f] 34 (0, 0))
end Go.Proofs.Ytgkpdngphjbhcaa
