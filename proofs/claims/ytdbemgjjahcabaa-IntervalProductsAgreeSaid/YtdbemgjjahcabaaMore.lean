/- A world with new blocks and draws, written as one term: what a call that only makes memory leaves behind. -/
import Derived.WalkKit
import Derived.WalkSpells
import Derived.WalkLawsBesides
import Derived.Deep.QuietTactic
import Derived.Handy
namespace Go.Proofs.Ytdbemgjjahcabaa
open Go.RowKit

/-- New blocks, and a number of draws. -/
structure Extra where
  blocks : List Obj
  draws : Nat
instance : Nonempty Extra := ⟨⟨[], 0⟩⟩

/-- w with new blocks laid behind it, and draws made. -/
def more (w : World) (p : Extra) : World := (p.blocks.foldl World.alloc w).drewN p.draws

theorem more_none (w : World) : more w ⟨[], 0⟩ = w := rfl
theorem more_drewN (w : World) (p : Extra) (n : Nat) : (more w p).drewN n = more w ⟨p.blocks, p.draws + n⟩ := by
  unfold more; rw [World.drewN_drewN]
theorem alloc_drewN (w : World) (n : Nat) (o : Obj) : (w.drewN n).alloc o = (w.alloc o).drewN n := rfl
theorem setCell_drewN (w : World) (n : Nat) (a : Addr) (v : Value) : (w.drewN n).setCell a v = (w.setCell a v).drewN n := rfl
theorem more_alloc (w : World) (p : Extra) (o : Obj) : (more w p).alloc o = more w ⟨p.blocks ++ [o], p.draws⟩ := by
  unfold more; rw [alloc_drewN, List.foldl_append]; rfl
theorem foldl_drewN (os : List Obj) (w : World) (n : Nat) : os.foldl World.alloc (w.drewN n) = (os.foldl World.alloc w).drewN n := by
  induction os generalizing w with
  | nil => rfl
  | cons o os ih => exact ih (w.alloc o)
theorem more_more (w : World) (p q : Extra) : more (more w p) q = more w ⟨p.blocks ++ q.blocks, p.draws + q.draws⟩ := by
  unfold more
  rw [foldl_drewN, World.drewN_drewN, List.foldl_append]
theorem below_more {B : Nat} {a w : World} (h : Below B a w) (hB : B ≤ w.heap.size) (p : Extra) : Below B a (more w p) := by
  obtain ⟨os, n⟩ := p
  have key : ∀ (os : List Obj) (w : World), Below B a w → B ≤ w.heap.size → Below B a (os.foldl World.alloc w) := by
    intro os
    induction os with
    | nil => intro w h _; exact h
    | cons o os ih => intro w h hB; exact ih (w.alloc o) (h.alloc hB o) (by simp; omega)
  have h1 := key os w h hB
  exact ⟨h1.os, h1.tape, h1.output, h1.size, h1.block⟩
theorem more_below (w : World) (p : Extra) : Below w.heap.size w (more w p) := below_more (Below.refl _ _) (Nat.le_refl _) p
theorem more_size (w : World) (p : Extra) : (more w p).heap.size = w.heap.size + p.blocks.length := by
  obtain ⟨os, n⟩ := p
  have key : ∀ (os : List Obj) (w : World), (os.foldl World.alloc w).heap.size = w.heap.size + os.length := by
    intro os
    induction os with
    | nil => intro w; rfl
    | cons o os ih => intro w; rw [List.foldl_cons, ih]; simp; omega
  exact key os w
theorem more_cell (w : World) (p : Extra) (b o : Nat) (h : b < w.heap.size) : (more w p).cell? ⟨b, o, none⟩ = w.cell? ⟨b, o, none⟩ := (more_below w p).cell (p := ⟨b, o, none⟩) h
theorem more_cell_some (w : World) (p : Extra) (a : Addr) (h : (w.cell? a).isSome = true) : (more w p).cell? a = w.cell? a := by
  obtain ⟨u, hu⟩ := Option.isSome_iff_exists.1 h
  exact (more_below w p).cell (World.block_lt_of_cell? w a hu)
theorem more_frozen (w : World) (p : Extra) (b o : Nat) (h : b < w.heap.size) : (more w p).frozen? ⟨b, o, none⟩ = w.frozen? ⟨b, o, none⟩ := (more_below w p).frozen (p := ⟨b, o, none⟩) h
theorem more_heap (w : World) (p : Extra) (b : Nat) (h : b < w.heap.size) : (more w p).heap[b]? = w.heap[b]? := (more_below w p).block b h
theorem size_setCell (w : World) (a : Addr) (v : Value) : (w.setCell a v).heap.size = w.heap.size := by simp [World.setCell]
theorem more_setCell (w : World) (p : Extra) (b i : Nat) (v : Value) (h : b < w.heap.size) : (more w p).setCell ⟨b, i, none⟩ v = more (w.setCell ⟨b, i, none⟩ v) p := by
  obtain ⟨os, n⟩ := p
  have key : ∀ (os : List Obj) (w : World), b < w.heap.size → (os.foldl World.alloc w).setCell ⟨b, i, none⟩ v = os.foldl World.alloc (w.setCell ⟨b, i, none⟩ v) := by
    intro os
    induction os with
    | nil => intro w _; rfl
    | cons o os ih =>
      intro w hb
      rw [List.foldl_cons, List.foldl_cons, ih _ (by simp; omega), World.setCell_alloc_past _ _ _ _ hb]
  unfold more
  rw [setCell_drewN, key os w h]

/-- a world that is as another one but for new blocks and draws -/
theorem more_of {w w' : World} (p : Extra) (h : w' = more w p) : ∃ q, w' = more w q := ⟨p, h⟩
theorem more_to {w w1 w2 : World} (h1 : ∃ p, w1 = more w p) (h2 : ∃ p, w2 = more w1 p) : ∃ p, w2 = more w p := by
  obtain ⟨p, rfl⟩ := h1
  obtain ⟨q, rfl⟩ := h2
  exact ⟨_, more_more w p q⟩
theorem more_draw (w : World) (n : Nat) : ∃ p, w.drewN n = more w p := ⟨⟨[], n⟩, rfl⟩

/-- A region that draws its order, that only reads what was there, and whose calls make memory at the most: walked once, in the order of the text. -/
theorem region_more {P : Program} {id : Nat} {Q : Exit → Act → World → Prop} {a : Act} {w : World} {l : List Oper} (hm : P.follows .mixedOrders = true) (hB : Region.lexB .any l.toArray = true)
    (h : wpQuiet P l.toArray (fun w' => ∃ p, w' = more w p) (fun a' => ∀ w', (∃ p, w' = more w p) → Q .normal a' w') l a) : (Code.region id l.toArray true).wp P Q a w :=
  wp_region_quiet (C := fun w' => ∃ p, w' = more w p) hm hB ⟨⟨[], 1⟩, rfl⟩ (by simpa using h)
/-- a call met in such a region -/
theorem calls_more {P : Program} {f : FuncId} {args : Array Value} {w : World} {p : Extra} {v : Value} (h : Calls P f args (more w p) fun e w' => e = .returned v ∧ ∃ q, w' = more (more w p) q) :
    Calls P f args (more w p) fun e w'' => e = .returned v ∧ ∃ q, w'' = more w q :=
  h.mono fun _ _ ⟨he, q, hq⟩ => ⟨he, _, hq.trans (more_more w p q)⟩
theorem calls_more_same {P : Program} {f : FuncId} {args : Array Value} {w : World} {p : Extra} {v : Value} (h : Calls P f args (more w p) fun e w' => e = .returned v ∧ more w p = w') :
    Calls P f args (more w p) fun e w'' => e = .returned v ∧ ∃ q, w'' = more w q :=
  h.mono fun _ _ ⟨he, hq⟩ => ⟨he, p, hq.symm⟩
theorem calls_more_drewN {P : Program} {f : FuncId} {args : Array Value} {w : World} {p : Extra} {v : Value} (h : Calls P f args (more w p) fun e w' => e = .returned v ∧ ∃ n, w' = (more w p).drewN n) :
    Calls P f args (more w p) fun e w'' => e = .returned v ∧ ∃ q, w'' = more w q :=
  h.mono fun _ _ ⟨he, n, hq⟩ => ⟨he, _, hq.trans (more_drewN w p n)⟩
end Go.Proofs.Ytdbemgjjahcabaa
