/- Contracts of the functions of layer 4 on floating-point numbers. -/
import Derived.Test.YtgjlmkombpgdgaaRound
import Derived.Test.YtgjlmkombpgdgaaMod
import Derived.Test.YtgjlmkombpgdgaaMore
import Derived.Test.YtgjlmkombpgdgaaShelf
import Derived.Test.YtgjlmkombpgdgaaRt
import Derived.Laws.Externs
import Derived.Handy
namespace Go.Proofs.Ytgjlmkombpgdgaa
open Go.RowKit FL
set_option linter.unusedVariables false

abbrev wideO (h l : Int) : Obj := .cells #[.int .u64 h, .int .u64 l] 44
theorem mul64_call (x y : Int) (w : World) (x0 : 0 ≤ x) (x1 : x ≤ 18446744073709551615) (y0 : 0 ≤ y) (y1 : y ≤ 18446744073709551615) :
    Calls Try.prog 26 #[.int .u64 x, .int .u64 y] w fun e w' => e = .returned (.tuple #[.int .u64 (x * y / 18446744073709551616), .int .u64 (x * y % 18446744073709551616)]) ∧ w = w' := by
  have h := Try.bits_Mul64 x.toNat y.toNat (by omega) (by omega) w
  rw [Int.toNat_of_nonneg x0, Int.toNat_of_nonneg y0] at h
  refine h.mono ?_
  rintro e w' ⟨rfl, rfl⟩
  refine ⟨?_, rfl⟩
  rw [Int.natCast_ediv, Int.natCast_emod, Int.natCast_mul, Int.toNat_of_nonneg x0, Int.toNat_of_nonneg y0]
  rfl
theorem add64_run (x y c : Int) (x0 : 0 ≤ x) (y0 : 0 ≤ y) (c0 : 0 ≤ c) (c1 : c ≤ 1) (w : World) :
    (callFunc 27 #[.int .u64 x, .int .u64 y, .int .u64 c]).run Try.prog w = .ok (.value (.tuple #[.int .u64 ((x + y + c) % 18446744073709551616), .int .u64 ((x + y + c) / 18446744073709551616)])) w := by
  rw [run_callFunc_extern Try.func27 (by kernel_rfl) (by kernel_rfl) (by kernel_rfl) (e := add64Entry) (by kernel_rfl), run_add64 x y c x0 y0 c0 c1]
  rfl
theorem bits_run (b : Nat) (w : World) : (callFunc 11 #[.float .f64 b]).run Try.prog w = .ok (.value (.int .u64 b)) w := by
  rw [run_callFunc_extern Try.func11 (by kernel_rfl) (by kernel_rfl) (by kernel_rfl) (e := Extern.MathFloatBits.float64bits) (by kernel_rfl)]
  rfl
theorem frombits_run (n : Int) (w : World) : (callFunc 10 #[.int .u64 n]).run Try.prog w = .ok (.value (.float .f64 n.toNat)) w := by
  rw [run_callFunc_extern Try.func10 (by kernel_rfl) (by kernel_rfl) (by kernel_rfl) (e := Extern.MathFloatBits.float64frombits) (by kernel_rfl)]
  rfl

theorem ret_two_ui {k l : IntKind} {a b c d : Int} (h : a = b) (h' : c = d) : Ending.returned (.tuple #[.int k a, .int l c]) = .returned (.tuple #[.int k b, .int l d]) := by rw [h, h']
theorem and_52 (b : Nat) (h : b < 18446744073709551616) : bits .and .u64 (b : Int) 4503599627370495 = ((b % 4503599627370496 : Nat) : Int) := by
  rw [u64_and _ _ (by omega) (by omega) (by omega) (by omega)]
  have e : (b : Int).toNat &&& Int.toNat 4503599627370495 = b % 4503599627370496 := Nat.and_two_pow_sub_one_eq_mod b 52
  rw [e]
theorem or_52 (b : Nat) (h : b < 4503599627370496) : bits .or .u64 (b : Int) 4503599627370496 = ((b + 4503599627370496 : Nat) : Int) := by
  rw [u64_or _ _ (by omega) (by omega) (by omega) (by omega)]
  have e : (b : Int).toNat ||| Int.toNat 4503599627370496 = b + 4503599627370496 := by
    rw [Nat.or_comm, Nat.add_comm]
    exact (Nat.two_pow_add_eq_or_of_lt (i := 52) h 1).symm
  rw [e]

set_option maxHeartbeats 400000 in
theorem parts_call (b : Nat) (w : World) (hb : b < 0x3FF0000000000000) :
    Calls Try.prog 19 #[.float .f64 b] w fun e w' => e = .returned (.tuple #[.int .u64 (mm b), .int .i64 (nn b)]) ∧ w = w' := by
  have hr := bits_run b
  have h1 := and_52 b (by omega)
  have b1 : (b : Int) ≤ 18446744073709551615 := by omega
  unfold mm nn
  by_cases h : b / 4503599627370496 = 0
  · rw [if_pos h, if_pos h]
    have hd : (b : Int) / 4503599627370496 = 0 := by omega
    generalize b % 4503599627370496 = m at *
    have H1 := Lib.hid h1
    clear h1 h
    go_enter Try.func19, Try.ntmps19
    go_wp2_with (simp only [hr])
    go_ret2
    exact ⟨ret_two_ui H1.out rfl, rfl⟩
  · rw [if_neg h, if_neg h]
    have h2 := or_52 (b % 4503599627370496) (by omega)
    have e1 : 1 ≤ (b : Int) / 4503599627370496 := by omega
    have e2 : (b : Int) / 4503599627370496 ≤ 1022 := by omega
    have e3 : ((1075 - b / 4503599627370496 : Nat) : Int) = 1075 - (b : Int) / 4503599627370496 := by omega
    rw [e3]
    rw [← h1] at h2
    have H2 := Lib.hid h2
    clear h1 h h2 e3
    go_enter Try.func19, Try.ntmps19
    go_wp2_with (simp only [hr])
    go_ret2
    exact ⟨ret_two_ui H2.out rfl, rfl⟩

theorem wide_of {W : World} {g : Nat} {l h : Int} (e : W.heap[g]? = some (wideO l h)) : g < W.heap.size ∧ W.cell? ⟨g, 0, none⟩ = some (.int .u64 l) ∧ W.cell? ⟨g, 1, none⟩ = some (.int .u64 h) := by
  have hg : g < W.heap.size := by
    rcases Nat.lt_or_ge g W.heap.size with h1 | h1
    · exact h1
    · simp [h1] at e
  refine ⟨hg, ?_, ?_⟩ <;> simp [World.cell?, e]
set_option maxHeartbeats 400000 in
theorem wideMul_call (a b : Int) (w : World) (a0 : 0 ≤ a) (a1 : a ≤ 18446744073709551615) (b0 : 0 ≤ b) (b1 : b ≤ 18446744073709551615) :
    Calls Try.prog 21 #[.int .u64 a, .int .u64 b] w fun e w' => e = .returned (.agg #[.int .u64 (a * b / 18446744073709551616), .int .u64 (a * b % 18446744073709551616)]) ∧ w.alloc (wideO (a * b / 18446744073709551616) (a * b % 18446744073709551616)) = w' := by
  have hm := fun w => mul64_call a b w a0 a1 b0 b1
  obtain ⟨H, hH⟩ : ∃ H, a * b / 18446744073709551616 = H := ⟨_, rfl⟩
  obtain ⟨L, hL⟩ : ∃ L, a * b % 18446744073709551616 = L := ⟨_, rfl⟩
  rw [hH, hL] at hm ⊢
  have HM := Lib.hid @hm
  clear hm hH hL
  go_enter Try.func21, Try.ntmps21
  go_wp2_with (go_at_call 26; (with_reducible refine (HM.out _).mono ?_); rintro e w' ⟨rfl, rfl⟩)
  exact bodyPost_ret (v := .agg #[.int .u64 H, .int .u64 L]) (by simp [results, Try.results21, go_sem]) rfl ⟨rfl, rfl⟩
set_option maxHeartbeats 400000 in
theorem refMul_call (a b : Int) (w : World) (a0 : 0 ≤ a) (a1 : a ≤ 18446744073709551615) (b0 : 0 ≤ b) (b1 : b ≤ 18446744073709551615) :
    Calls Try.prog 22 #[.int .u64 a, .int .u64 b] w fun e w' => e = .returned (.agg #[.int .u64 (a * b / 18446744073709551616), .int .u64 (a * b % 18446744073709551616)]) ∧ w.alloc (wideO (a * b / 18446744073709551616) (a * b % 18446744073709551616)) = w' := by
  have hm := fun w => mul64_call a b w a0 a1 b0 b1
  obtain ⟨H, hH⟩ : ∃ H, a * b / 18446744073709551616 = H := ⟨_, rfl⟩
  obtain ⟨L, hL⟩ : ∃ L, a * b % 18446744073709551616 = L := ⟨_, rfl⟩
  rw [hH, hL] at hm ⊢
  have HM := Lib.hid @hm
  clear hm hH hL
  go_enter Try.func22, Try.ntmps22
  go_wp2_with (go_at_call 26; (with_reducible refine (HM.out _).mono ?_); rintro e w' ⟨rfl, rfl⟩)
  exact bodyPost_ret (v := .agg #[.int .u64 H, .int .u64 L]) (by simp [results, Try.results22, go_sem]) rfl ⟨rfl, rfl⟩

/-- the sum of two numbers of 128 bits, in parts -/
theorem sum_parts (ah al bh bl : Int) (a0 : 0 ≤ ah) (l0 : 0 ≤ al) (b0 : 0 ≤ bh) (k0 : 0 ≤ bl) (l1 : al ≤ 18446744073709551615) (k1 : bl ≤ 18446744073709551615) (hf : ah * 18446744073709551616 + al + (bh * 18446744073709551616 + bl) < 340282366920938463463374607431768211456) :
    ∃ C H L : Int, (∀ w, (callFunc 27 #[.int .u64 al, .int .u64 bl, .int .u64 0]).run Try.prog w = .ok (.value (.tuple #[.int .u64 L, .int .u64 C])) w) ∧
      (∀ w, (callFunc 27 #[.int .u64 ah, .int .u64 bh, .int .u64 C]).run Try.prog w = .ok (.value (.tuple #[.int .u64 H, .int .u64 0])) w) ∧
      H = (ah * 18446744073709551616 + al + (bh * 18446744073709551616 + bl)) / 18446744073709551616 ∧ L = (ah * 18446744073709551616 + al + (bh * 18446744073709551616 + bl)) % 18446744073709551616 := by
  have r1 := fun w => add64_run al bl 0 l0 k0 (by omega) (by omega) w
  have r2 := fun w => add64_run ah bh ((al + bl) / 18446744073709551616) a0 b0 (by omega) (by omega) w
  rw [show al + bl + 0 = al + bl by omega] at r1
  rw [show (ah + bh + (al + bl) / 18446744073709551616) / 18446744073709551616 = 0 by omega] at r2
  exact ⟨_, _, _, r1, r2, by omega, by omega⟩
set_option maxHeartbeats 400000 in
theorem wideAdd_call (ah al bh bl S : Int) (a0 : 0 ≤ ah) (l0 : 0 ≤ al) (b0 : 0 ≤ bh) (k0 : 0 ≤ bl) (l1 : al ≤ 18446744073709551615) (k1 : bl ≤ 18446744073709551615) (hS : ah * 18446744073709551616 + al + (bh * 18446744073709551616 + bl) = S) (hf : S < 340282366920938463463374607431768211456) (w : World) :
    Calls Try.prog 25 #[.agg #[.int .u64 ah, .int .u64 al], .agg #[.int .u64 bh, .int .u64 bl]] w fun e w' => e = .returned (.tuple #[.agg #[.int .u64 (S / 18446744073709551616), .int .u64 (S % 18446744073709551616)], .bool true]) ∧
      ((w.alloc (wideO ah al)).alloc (wideO bh bl)).alloc (wideO (S / 18446744073709551616) (S % 18446744073709551616)) = w' := by
  subst hS
  obtain ⟨C, H, L, r1, r2, e1, e2⟩ := sum_parts ah al bh bl a0 l0 b0 k0 l1 k1 hf
  rw [← e1, ← e2]
  clear hf e1 e2
  go_enter Try.func25, Try.ntmps25
  go_wp2_with (simp only [r1, r2])
  exact bodyPost_ret (v := .tuple #[.agg #[.int .u64 H, .int .u64 L], .bool true]) (by simp [results, Try.results25, go_sem]) rfl ⟨rfl, rfl⟩
set_option maxHeartbeats 400000 in
theorem refAdd_call (ah al bh bl S : Int) (a0 : 0 ≤ ah) (l0 : 0 ≤ al) (b0 : 0 ≤ bh) (k0 : 0 ≤ bl) (l1 : al ≤ 18446744073709551615) (k1 : bl ≤ 18446744073709551615) (hS : ah * 18446744073709551616 + al + (bh * 18446744073709551616 + bl) = S) (hf : S < 340282366920938463463374607431768211456) (w : World) :
    Calls Try.prog 23 #[.agg #[.int .u64 ah, .int .u64 al], .agg #[.int .u64 bh, .int .u64 bl]] w fun e w' => e = .returned (.tuple #[.agg #[.int .u64 (S / 18446744073709551616), .int .u64 (S % 18446744073709551616)], .bool true]) ∧
      ((w.alloc (wideO ah al)).alloc (wideO bh bl)).alloc (wideO (S / 18446744073709551616) (S % 18446744073709551616)) = w' := by
  subst hS
  obtain ⟨C, H, L, r1, r2, e1, e2⟩ := sum_parts ah al bh bl a0 l0 b0 k0 l1 k1 hf
  rw [← e1, ← e2]
  clear hf e1 e2
  go_enter Try.func23, Try.ntmps23
  go_wp2_with (simp only [r1, r2])
  exact bodyPost_ret (v := .tuple #[.agg #[.int .u64 H, .int .u64 L], .bool true]) (by simp [results, Try.results23, go_sem]) rfl ⟨rfl, rfl⟩
end Go.Proofs.Ytgjlmkombpgdgaa
