/- The walk of SampleValidAgrees: it returns true. -/
import Derived.Test.YtgkpdngphjbhcaaPix3
import Derived.Test.YtgkpdngphjbhcaaHeap
import Derived.Test.YtgkpdngphjbhcaaLaw05a
import Derived.Deep.RegionHeld3
import Derived.Deep.DeepCutAuto
import Derived.BigQuiet
namespace Go.Proofs.Ytgkpdngphjbhcaa
open Go.RowKit BigFrame
set_option linter.unusedVariables false

theorem pix_more' {W : World} {g : Nat} {x y z a f : Int} (hg : g < W.heap.size) (h : Pix5 W g x y z a f) (p : Extra) : Pix5 (more W p) g x y z a f :=
  ⟨(more_cell W p g 0 hg).trans h.1, (more_cell W p g 1 hg).trans h.2.1, (more_cell W p g 2 hg).trans h.2.2.1, (more_cell W p g 3 hg).trans h.2.2.2.1, (more_cell W p g 4 hg).trans h.2.2.2.2.1, (more_heap W p g hg).trans h.2.2.2.2.2⟩
theorem at_world' {P : Program} {c : Code} {Q : Exit → Act → World → Prop} {a : Act} {W : World} (F : World → Prop) (h : F W) (k : ∀ W, F W → c.wp P Q a W) : c.wp P Q a W := k W h

set_option maxHeartbeats 8000000 in
set_option maxRecDepth 100000 in
theorem valid_at (b xp yp zp ap fp n0 n1 n2 n3 n4 at' v u m : Int) (w : World) (h0 : -9223372036854775808 ≤ n0) (g0 : n0 ≤ 9223372036854775807) (h1 : -9223372036854775808 ≤ n1) (g1 : n1 ≤ 9223372036854775807) (h2 : -9223372036854775808 ≤ n2) (g2 : n2 ≤ 9223372036854775807) (h3 : -9223372036854775808 ≤ n3) (g3 : n3 ≤ 9223372036854775807) (h4 : -9223372036854775808 ≤ n4) (g4 : n4 ≤ 9223372036854775807) (hmt : gmax b = m) (hm : m = 255 ∨ m = 65535) (v0 : 0 ≤ v) (v1 : v ≤ 65535) (r : Int) (hr : at' % 5 = r) (hr5 : r = 0 ∨ r = 1 ∨ r = 2 ∨ r = 3 ∨ r = 4) :
    Calls Try.prog 6 #[.int .i64 b, .agg #[.int .u16 xp, .int .u16 yp, .int .u16 zp, .int .u16 ap, .int .u16 fp], .agg #[.int .i64 n0, .int .i64 n1, .int .i64 n2, .int .i64 n3, .int .i64 n4], .int .i64 at', .int .u16 v, .int .u16 u] w fun e w' => e = .returned (.bool true) ∧ Below w.heap.size w w' := by
  have m0 : 0 ≤ m := by omega
  have m1 : m ≤ 65535 := by omega
  have r0 : 0 ≤ b % 4 := by omega
  have r1 : b % 4 ≤ 3 := by omega
  have CM : ∀ W : World, Calls Try.prog 16 #[.int .i64 b] W fun e w' => e = .returned (.int .u16 m) ∧ W = w' := fun W => by rw [← hmt]; exact max_call b W
  have CG := genPixel_ex n0 n1 n2 n3 n4 m
  replace CM := Lib.hid @CM
  replace CG := Lib.hid @CG
  have CR : ∀ W : World, Calls Try.prog 25 #[.int .i64 at', .int .i64 5] W fun e w' => e = .returned (.int .i64 r) ∧ W = w' := fun W => by rw [← hr]; exact mod_call _ _ _ (by omega) (by omega)
  replace CR := Lib.hid @CR
  clear hmt hm hr
  have hsd : ∀ (w : World) (n : Nat) (a : Addr) (v : Value), (w.drewN n).setCell a v = (w.setCell a v).drewN n := fun _ _ _ _ => rfl
  have had : ∀ (w : World) (n : Nat) (o : Obj), (w.drewN n).alloc o = (w.alloc o).drewN n := fun _ _ _ => rfl
  go_enter Try.func6, Try.ntmps6
  go_upto_region 7 with (first | (go_at_call 16; (with_reducible refine (CM.out _).mono ?_); rintro e w1 ⟨rfl, rfl⟩) | (go_at_call 22; (with_reducible refine (CG.out _ m0 m1 h0 g0 h1 g1 h2 g2 h3 g3 h4 g4).mono ?_); rintro e w1 ⟨x, y, z, a, f, rfl, hv, x0, y0, z0, p1, p2, n, rfl⟩) | (go_at_call 23; (with_reducible refine (smax_call _ _).mono ?_); rintro e w1 ⟨rfl, rfl⟩) | (go_at_call 24; (with_reducible refine (refMax_call _ _).mono ?_); rintro e w1 ⟨rfl, rfl⟩) | (go_at_call 25; (with_reducible refine (mod_call _ _ _ (by omega) (by omega)).mono ?_); rintro e w1 ⟨rfl, rfl⟩))
  refine at_world' (fun W => Below w.heap.size w W ∧ w.heap.size ≤ W.heap.size ∧ w.heap.size < W.heap.size ∧ w.heap.size + 1 + 1 + 1 + 1 < W.heap.size ∧ Pix5 W w.heap.size xp yp zp ap fp ∧ Pix5 W (w.heap.size + 1 + 1 + 1 + 1) x y z a f) ?_ ?_
  · refine ⟨more_below w ⟨[_, _, _, _, _], _⟩, ?_, ?_, ?_, ⟨?_, ?_, ?_, ?_, ?_, ?_⟩, ⟨?_, ?_, ?_, ?_, ?_, ?_⟩⟩
    all_goals first | (go_simp; done) | (simp; omega) | (simp; done) | (refine at_drew ?_; repeat (first | (refine at_new ?_; simp; done) | refine at_old ?_))
  obtain ⟨gq, hgq⟩ : ∃ g, g = w.heap.size + 1 + 1 + 1 + 1 := ⟨_, rfl⟩
  rw [← hgq]
  rintro wc ⟨hb, hs, hp1, hq1, pp, pq⟩
  have hne : gq ≠ w.heap.size := by omega
  have hge : w.heap.size ≤ gq := by omega
  clear hgq
  obtain ⟨c0, c1, c2, c3, c4, c5⟩ := id pp
  obtain ⟨d0, d1, d2, d3, d4, d5⟩ := id pq
  have hmc := more_cell
  have hmh := more_heap
  refine region_more (by kernel_rfl) (by kernel_rfl) ?_
  iterate 17 (go_big_quiet_step ((first
      | (go_at_call 15; exact calls_more_drewN (awake05_call _))
      | (go_at_call 26; exact calls_more_valid (valid_call _ _ _ _ _ _ _))
      | (go_at_call 27; exact calls_more_valid (refValid_call _ _ _ _ _ _ _)))))
  refine wpQuiet_nil ?_
  rintro w1 ⟨p, rfl⟩
  clear c0 c1 c2 c3 c4 c5 d0 d1 d2 d3 d4 d5
  have hb' := below_more hb hs p
  have hs' : w.heap.size ≤ (more wc p).heap.size := by rw [more_size]; omega
  have hq' : gq < (more wc p).heap.size := by rw [more_size]; omega
  obtain ⟨d0, d1, d2, d3, d4, d5⟩ := pix_more' hq1 pq p
  clear pp pq hb hs hp1 hq1
  generalize more wc p = wd at hb' hs' hq' d0 d1 d2 d3 d4 d5 ⊢
  have hfz : ∀ i, wd.frozen? ⟨gq, i, none⟩ = false := fun i => by unfold World.frozen?; simp [d5]
  rcases hr5 with rfl | rfl | rfl | rfl | rfl
  · go_upto_region 15 with (go_at_call 25; (with_reducible refine (CR.out _).mono ?_); rintro e w1 ⟨rfl, rfl⟩)
    clear CM CG CR hfz
    refine at_world' (fun W => Below w.heap.size w W ∧ w.heap.size ≤ W.heap.size ∧ gq < W.heap.size ∧ ∃ x y z a f : Int, Pix5 W gq x y z a f) ⟨hb'.setCell hge _, ?_, ?_, v, y, z, a, f, ?_, ?_, ?_, ?_, ?_, ?_⟩ ?_
    · go_size
    · go_size
    · go_simp
    · go_simp
    · go_simp
    · go_simp
    · go_simp
    · simp [World.setCell, Array.getElem?_modify, d5]
    rintro wc ⟨hb, hs, hq, x1, y1, z1, a1, f1, c0, c1, c2, c3, c4, c5⟩
    clear d0 d1 d2 d3 d4 d5
    refine region_more (by kernel_rfl) (by kernel_rfl) ?_
    repeat (go_big_quiet_step ((first
      | (go_at_call 15; exact calls_more_drewN (awake05_call _))
      | (go_at_call 26; exact calls_more_valid (valid_call _ _ _ _ _ _ _))
      | (go_at_call 27; exact calls_more_valid (refValid_call _ _ _ _ _ _ _)))))
    refine wpQuiet_nil ?_
    rintro w1 ⟨p, rfl⟩
    go_wp2
    go_returns
    exact ⟨rfl, below_more hb hs _⟩
  · go_upto_region 15 with (go_at_call 25; (with_reducible refine (CR.out _).mono ?_); rintro e w1 ⟨rfl, rfl⟩)
    clear CM CG CR hfz
    refine at_world' (fun W => Below w.heap.size w W ∧ w.heap.size ≤ W.heap.size ∧ gq < W.heap.size ∧ ∃ x y z a f : Int, Pix5 W gq x y z a f) ⟨hb'.setCell hge _, ?_, ?_, x, v, z, a, f, ?_, ?_, ?_, ?_, ?_, ?_⟩ ?_
    · go_size
    · go_size
    · go_simp
    · go_simp
    · go_simp
    · go_simp
    · go_simp
    · simp [World.setCell, Array.getElem?_modify, d5]
    rintro wc ⟨hb, hs, hq, x1, y1, z1, a1, f1, c0, c1, c2, c3, c4, c5⟩
    clear d0 d1 d2 d3 d4 d5
    refine region_more (by kernel_rfl) (by kernel_rfl) ?_
    repeat (go_big_quiet_step ((first
      | (go_at_call 15; exact calls_more_drewN (awake05_call _))
      | (go_at_call 26; exact calls_more_valid (valid_call _ _ _ _ _ _ _))
      | (go_at_call 27; exact calls_more_valid (refValid_call _ _ _ _ _ _ _)))))
    refine wpQuiet_nil ?_
    rintro w1 ⟨p, rfl⟩
    go_wp2
    go_returns
    exact ⟨rfl, below_more hb hs _⟩
  · go_upto_region 15 with (go_at_call 25; (with_reducible refine (CR.out _).mono ?_); rintro e w1 ⟨rfl, rfl⟩)
    clear CM CG CR hfz
    refine at_world' (fun W => Below w.heap.size w W ∧ w.heap.size ≤ W.heap.size ∧ gq < W.heap.size ∧ ∃ x y z a f : Int, Pix5 W gq x y z a f) ⟨hb'.setCell hge _, ?_, ?_, x, y, v, a, f, ?_, ?_, ?_, ?_, ?_, ?_⟩ ?_
    · go_size
    · go_size
    · go_simp
    · go_simp
    · go_simp
    · go_simp
    · go_simp
    · simp [World.setCell, Array.getElem?_modify, d5]
    rintro wc ⟨hb, hs, hq, x1, y1, z1, a1, f1, c0, c1, c2, c3, c4, c5⟩
    clear d0 d1 d2 d3 d4 d5
    refine region_more (by kernel_rfl) (by kernel_rfl) ?_
    repeat (go_big_quiet_step ((first
      | (go_at_call 15; exact calls_more_drewN (awake05_call _))
      | (go_at_call 26; exact calls_more_valid (valid_call _ _ _ _ _ _ _))
      | (go_at_call 27; exact calls_more_valid (refValid_call _ _ _ _ _ _ _)))))
    refine wpQuiet_nil ?_
    rintro w1 ⟨p, rfl⟩
    go_wp2
    go_returns
    exact ⟨rfl, below_more hb hs _⟩
  · go_upto_region 15 with (go_at_call 25; (with_reducible refine (CR.out _).mono ?_); rintro e w1 ⟨rfl, rfl⟩)
    clear CM CG CR hfz
    refine at_world' (fun W => Below w.heap.size w W ∧ w.heap.size ≤ W.heap.size ∧ gq < W.heap.size ∧ ∃ x y z a f : Int, Pix5 W gq x y z a f) ⟨hb'.setCell hge _, ?_, ?_, x, y, z, v, f, ?_, ?_, ?_, ?_, ?_, ?_⟩ ?_
    · go_size
    · go_size
    · go_simp
    · go_simp
    · go_simp
    · go_simp
    · go_simp
    · simp [World.setCell, Array.getElem?_modify, d5]
    rintro wc ⟨hb, hs, hq, x1, y1, z1, a1, f1, c0, c1, c2, c3, c4, c5⟩
    clear d0 d1 d2 d3 d4 d5
    refine region_more (by kernel_rfl) (by kernel_rfl) ?_
    repeat (go_big_quiet_step ((first
      | (go_at_call 15; exact calls_more_drewN (awake05_call _))
      | (go_at_call 26; exact calls_more_valid (valid_call _ _ _ _ _ _ _))
      | (go_at_call 27; exact calls_more_valid (refValid_call _ _ _ _ _ _ _)))))
    refine wpQuiet_nil ?_
    rintro w1 ⟨p, rfl⟩
    go_wp2
    go_returns
    exact ⟨rfl, below_more hb hs _⟩
  · go_upto_region 15 with (go_at_call 25; (with_reducible refine (CR.out _).mono ?_); rintro e w1 ⟨rfl, rfl⟩)
    clear CM CG CR hfz
    refine at_world' (fun W => Below w.heap.size w W ∧ w.heap.size ≤ W.heap.size ∧ gq < W.heap.size ∧ ∃ x y z a f : Int, Pix5 W gq x y z a f) ⟨hb'.setCell hge _, ?_, ?_, x, y, z, a, v, ?_, ?_, ?_, ?_, ?_, ?_⟩ ?_
    · go_size
    · go_size
    · go_simp
    · go_simp
    · go_simp
    · go_simp
    · go_simp
    · simp [World.setCell, Array.getElem?_modify, d5]
    rintro wc ⟨hb, hs, hq, x1, y1, z1, a1, f1, c0, c1, c2, c3, c4, c5⟩
    clear d0 d1 d2 d3 d4 d5
    refine region_more (by kernel_rfl) (by kernel_rfl) ?_
    repeat (go_big_quiet_step ((first
      | (go_at_call 15; exact calls_more_drewN (awake05_call _))
      | (go_at_call 26; exact calls_more_valid (valid_call _ _ _ _ _ _ _))
      | (go_at_call 27; exact calls_more_valid (refValid_call _ _ _ _ _ _ _)))))
    refine wpQuiet_nil ?_
    rintro w1 ⟨p, rfl⟩
    go_wp2
    go_returns
    exact ⟨rfl, below_more hb hs _⟩
theorem sampleValidAgrees_walk (b xp yp zp ap fp n0 n1 n2 n3 n4 at' v u : Int) (w : World) (_ : -9223372036854775808 ≤ b) (_ : b ≤ 9223372036854775807)
    (_ : 0 ≤ xp) (_ : xp ≤ 65535) (_ : 0 ≤ yp) (_ : yp ≤ 65535) (_ : 0 ≤ zp) (_ : zp ≤ 65535) (_ : 0 ≤ ap) (_ : ap ≤ 65535) (_ : 0 ≤ fp) (_ : fp ≤ 65535) (h0 : -9223372036854775808 ≤ n0) (g0 : n0 ≤ 9223372036854775807) (h1 : -9223372036854775808 ≤ n1) (g1 : n1 ≤ 9223372036854775807) (h2 : -9223372036854775808 ≤ n2) (g2 : n2 ≤ 9223372036854775807) (h3 : -9223372036854775808 ≤ n3) (g3 : n3 ≤ 9223372036854775807) (h4 : -9223372036854775808 ≤ n4) (g4 : n4 ≤ 9223372036854775807)
    (_ : -9223372036854775808 ≤ at') (_ : at' ≤ 9223372036854775807) (v0 : 0 ≤ v) (v1 : v ≤ 65535) (_ : 0 ≤ u) (_ : u ≤ 65535) :
    Calls Try.prog 6 #[.int .i64 b, .agg #[.int .u16 xp, .int .u16 yp, .int .u16 zp, .int .u16 ap, .int .u16 fp], .agg #[.int .i64 n0, .int .i64 n1, .int .i64 n2, .int .i64 n3, .int .i64 n4], .int .i64 at', .int .u16 v, .int .u16 u] w fun e w' => e = .returned (.bool true) ∧ Below w.heap.size w w' :=
  valid_at b xp yp zp ap fp n0 n1 n2 n3 n4 at' v u _ w h0 g0 h1 g1 h2 g2 h3 g3 h4 g4 rfl (gmax_cases b) v0 v1 _ rfl (by omega)
end Go.Proofs.Ytgkpdngphjbhcaa
