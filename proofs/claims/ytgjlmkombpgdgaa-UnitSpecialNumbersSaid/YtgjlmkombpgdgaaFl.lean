/- Floats as numbers: the value of a word, its order, and what FromFloat gives: plain laws. -/
import Derived.Laws.FloatArith
namespace Go.Proofs.Ytgjlmkombpgdgaa.FL
open Ieee

/-- the magnitude of a rung, in units of the least subnormal number; infinity's is the next in the row -/
def rv (r : Nat) : Nat := if r < 4503599627370496 then r else (4503599627370496 + r % 4503599627370496) * 2 ^ (r / 4503599627370496 - 1)
def isn (b : Nat) : Bool := decide (0x7FF0000000000000 < b % 9223372036854775808)
def sv (b : Nat) : Int := if b / 9223372036854775808 % 2 = 1 then -(rv (b % 9223372036854775808) : Int) else rv (b % 9223372036854775808)

theorem rv_step (r : Nat) : rv r < rv (r + 1) := by
  unfold rv
  by_cases h : r + 1 < 4503599627370496
  · rw [if_pos (by omega), if_pos h]; omega
  · rw [if_neg h]
    by_cases h2 : r < 4503599627370496
    · obtain rfl : r = 4503599627370495 := by omega
      decide
    · rw [if_neg h2]
      have hd : 1 ≤ r / 4503599627370496 := by omega
      by_cases h3 : r % 4503599627370496 = 4503599627370495
      · have e1 : (r + 1) % 4503599627370496 = 0 := by omega
        have e2 : (r + 1) / 4503599627370496 - 1 = (r / 4503599627370496 - 1) + 1 := by omega
        rw [e1, e2, h3, Nat.pow_succ]
        have := Nat.two_pow_pos (r / 4503599627370496 - 1)
        generalize 2 ^ (r / 4503599627370496 - 1) = k at *
        omega
      · have e1 : (r + 1) % 4503599627370496 = r % 4503599627370496 + 1 := by omega
        have e2 : (r + 1) / 4503599627370496 = r / 4503599627370496 := by omega
        rw [e1, e2]
        exact Nat.mul_lt_mul_of_pos_right (by omega) (Nat.two_pow_pos _)
theorem rv_lt {a b : Nat} (h : a < b) : rv a < rv b := by
  induction b with
  | zero => omega
  | succ n ih =>
    by_cases e : a = n
    · subst e; exact rv_step _
    · exact Nat.lt_trans (ih (by omega)) (rv_step _)
theorem rv_lt_iff {a b : Nat} : rv a < rv b ↔ a < b := by
  refine ⟨fun h => ?_, rv_lt⟩
  apply Nat.lt_of_not_le
  intro hle
  by_cases e : a = b
  · subst e; omega
  · have := rv_lt (show b < a by omega); omega
theorem rv_le_iff {a b : Nat} : rv a ≤ rv b ↔ a ≤ b := by
  rw [← Nat.not_lt, rv_lt_iff, Nat.not_lt]

theorem leastPlace_double : double.leastPlace = -1074 := by decide
theorem binade_double : double.binade = 4503599627370496 := by decide
theorem infRung_double : double.infRung = 0x7FF0000000000000 := by decide
theorem signWeight_double : double.signWeight = 9223372036854775808 := by decide

/-- what a word stands for, by its value -/
inductive Reads (b : Nat) : Datum → Prop
  | nan (s f) (h : isn b = true) : Reads b (.nan s f)
  | inf (s : Bool) (h : isn b = false) (e : sv b = if s then -(rv 0x7FF0000000000000 : Int) else rv 0x7FF0000000000000) : Reads b (.infinity s)
  | num (s : Bool) (m : Nat) (p : Nat) (h : isn b = false) (e : sv b = if s then -((m * 2 ^ p : Nat) : Int) else ((m * 2 ^ p : Nat) : Int)) (lt : m * 2 ^ p < rv 0x7FF0000000000000) : Reads b (.number s m ((p : Int) - 1074))

theorem reads (b : Nat) : Reads b (double.read b) := by
  unfold Format.read
  rw [signWeight_double, binade_double, infRung_double, leastPlace_double]
  generalize hr : b % 9223372036854775808 = r
  have hsv : sv b = if b / 9223372036854775808 % 2 = 1 then -(rv r : Int) else rv r := by unfold sv; rw [hr]
  have his : isn b = decide (0x7FF0000000000000 < r) := by unfold isn; rw [hr]
  have hs : ((b / 9223372036854775808 % 2 == 1) = true) = (b / 9223372036854775808 % 2 = 1) := by simp
  by_cases h1 : r < 4503599627370496
  · rw [if_pos h1]
    have := Reads.num (b := b) (b / 9223372036854775808 % 2 == 1) r 0 (by rw [his]; exact decide_eq_false (by omega)) (by
      rw [hsv]; unfold rv; rw [if_pos h1]; simp only [hs, Nat.pow_zero, Nat.mul_one]) (by rw [Nat.pow_zero, Nat.mul_one]; have := rv_lt (show r < 0x7FF0000000000000 by omega); unfold rv at this; rw [if_pos h1] at this; exact this)
    exact this
  · rw [if_neg h1]
    by_cases h2 : r < 0x7FF0000000000000
    · rw [if_pos h2]
      have e : rv r = (4503599627370496 + r % 4503599627370496) * 2 ^ (r / 4503599627370496 - 1) := by unfold rv; rw [if_neg h1]
      have := Reads.num (b := b) (b / 9223372036854775808 % 2 == 1) (4503599627370496 + r % 4503599627370496) (r / 4503599627370496 - 1) (by rw [his]; exact decide_eq_false (by omega)) (by
        rw [hsv, e]; simp only [hs]) (by rw [← e]; exact rv_lt h2)
      rw [show (-1074 : Int) + ((r / 4503599627370496 - 1 : Nat) : Int) = ((r / 4503599627370496 - 1 : Nat) : Int) - 1074 by omega]
      exact this
    · rw [if_neg h2]
      by_cases h3 : r = 0x7FF0000000000000
      · rw [if_pos h3]
        exact .inf _ (by rw [his]; exact decide_eq_false (by omega)) (by rw [hsv, h3]; simp only [hs])
      · rw [if_neg h3]
        exact .nan _ _ (by rw [his]; exact decide_eq_true (by omega))

theorem cmp_def (a b : Int) : compare a b = if a < b then Ordering.lt else if a = b then .eq else .gt := rfl
theorem compare_mul (a b : Int) {k : Int} (hk : 0 < k) : compare (a * k) (b * k) = compare a b := by
  simp only [cmp_def]
  have h1 : (a * k < b * k) = (a < b) := propext (Int.mul_lt_mul_right hk)
  have h2 : (a * k = b * k) = (a = b) := propext ⟨fun e => Int.eq_of_mul_eq_mul_right (Int.ne_of_gt hk) e, fun e => by rw [e]⟩
  simp only [h1, h2]
theorem signed_mul (s : Bool) (m p q : Nat) (h : q ≤ p) : signed s m (p - q) * (2 ^ q : Nat) = if s then -((m * 2 ^ p : Nat) : Int) else ((m * 2 ^ p : Nat) : Int) := by
  have e : (m <<< (p - q)) * 2 ^ q = m * 2 ^ p := by
    rw [Nat.shiftLeft_eq, Nat.mul_assoc, ← Nat.pow_add]; congr 2; omega
  unfold signed
  cases s
  · simp only [Bool.false_eq_true, if_false]; rw [← e]; exact (Int.natCast_mul _ _).symm
  · simp only [if_true]; rw [← e, Int.neg_mul, Int.natCast_mul]
theorem compare_lt {a b : Int} (h : a < b) : compare a b = .lt := by rw [cmp_def]; rw [if_pos h]
theorem compare_gt {a b : Int} (h : b < a) : compare a b = .gt := by rw [cmp_def]; rw [if_neg (by omega), if_neg (by omega)]
theorem compare_eq {a b : Int} (h : a = b) : compare a b = .eq := by rw [cmp_def]; rw [if_neg (by omega), if_pos h]

theorem order_double (x y : Nat) : double.order x y = if isn x = true ∨ isn y = true then none else some (compare (sv x) (sv y)) := by
  unfold Format.order
  have hx := reads x
  have hy := reads y
  have h0 : (0 : Int) < rv 0x7FF0000000000000 := by have := rv_lt (show 0 < 0x7FF0000000000000 by omega); omega
  generalize double.read x = dx at hx
  generalize double.read y = dy at hy
  cases hx with
  | nan s f h => rw [if_pos (Or.inl h)]; cases dy <;> rfl
  | inf s h e =>
    cases hy with
    | nan t g k => rw [if_pos (Or.inr k)]; rfl
    | inf t k f => 
      rw [if_neg (by rw [h, k]; simp), e, f]
      cases s <;> cases t <;> simp only [Datum.order, if_true, if_false, Bool.false_eq_true]
      · rw [compare_eq rfl]; rfl
      · rw [compare_gt (by omega)]; rfl
      · rw [compare_lt (by omega)]; rfl
      · rw [compare_eq rfl]; rfl
    | num t n q k f lt =>
      rw [if_neg (by rw [h, k]; simp), e, f]
      have : ((n * 2 ^ q : Nat) : Int) < rv 0x7FF0000000000000 := by exact_mod_cast lt
      generalize ((n * 2 ^ q : Nat)) = v at *
      cases s <;> cases t <;> simp only [Datum.order, if_true, if_false, Bool.false_eq_true]
      · rw [compare_gt (by omega)]
      · rw [compare_gt (by omega)]
      · rw [compare_lt (by omega)]
      · rw [compare_lt (by omega)]
  | num s m p h e lt0 =>
    cases hy with
    | nan t g k => rw [if_pos (Or.inr k)]; rfl
    | inf t k f => 
      rw [if_neg (by rw [h, k]; simp), e, f]
      have : ((m * 2 ^ p : Nat) : Int) < rv 0x7FF0000000000000 := by exact_mod_cast lt0
      generalize ((m * 2 ^ p : Nat)) = v at *
      cases s <;> cases t <;> simp only [Datum.order, if_true, if_false, Bool.false_eq_true]
      · rw [compare_lt (by omega)]
      · rw [compare_gt (by omega)]
      · rw [compare_lt (by omega)]
      · rw [compare_gt (by omega)]
    | num t n q k f lt =>
      rw [if_neg (by rw [h, k]; simp), e, f]
      simp only [Datum.order]
      have e1 : ((p : Int) - 1074 - min ((p : Int) - 1074) ((q : Int) - 1074)).toNat = p - min p q := by omega
      have e2 : ((q : Int) - 1074 - min ((p : Int) - 1074) ((q : Int) - 1074)).toNat = q - min p q := by omega
      rw [e1, e2, ← compare_mul _ _ (k := (2 ^ (min p q) : Nat)) (by exact_mod_cast Nat.two_pow_pos _), signed_mul _ _ _ _ (Nat.min_le_left _ _), signed_mul _ _ _ _ (Nat.min_le_right _ _)]

/-- 1, in units of the least number -/
def big : Nat := rv 0x3FF0000000000000
theorem big_eq : big = 2 ^ 1074 := by unfold big rv; decide +kernel
theorem sv_zero : sv 0 = 0 := by unfold sv rv; decide +kernel
theorem sv_one : sv 0x3FF0000000000000 = big := by unfold sv big; simp
theorem isn_zero : isn 0 = false := by decide
theorem isn_one : isn 0x3FF0000000000000 = false := by decide
theorem order_self (x : Nat) : (double.order x x == some .eq) = !isn x := by
  rw [order_double]
  cases h : isn x
  · rw [if_neg (by simp), compare_eq rfl]; rfl
  · rw [if_pos (by simp)]; rfl
theorem order_lt (x y : Nat) : (double.order x y == some .lt) = (!isn x && !isn y && decide (sv x < sv y)) := by
  rw [order_double]
  cases h : isn x
  · cases k : isn y
    · rw [if_neg (by simp)]
      by_cases hlt : sv x < sv y
      · rw [compare_lt hlt, decide_eq_true hlt]; rfl
      · rw [decide_eq_false hlt]
        by_cases he : sv x = sv y
        · rw [compare_eq he]; rfl
        · rw [compare_gt (by omega)]; rfl
    · rw [if_pos (by simp)]; rfl
  · rw [if_pos (by simp)]; rfl
theorem order_eq (x y : Nat) : (double.order x y == some .eq) = (!isn x && !isn y && decide (sv x = sv y)) := by
  rw [order_double]
  cases h : isn x
  · cases k : isn y
    · rw [if_neg (by simp)]
      by_cases hlt : sv x = sv y
      · rw [compare_eq hlt, decide_eq_true hlt]; rfl
      · rw [decide_eq_false hlt]
        by_cases he : sv x < sv y
        · rw [compare_lt he]; rfl
        · rw [compare_gt (by omega)]; rfl
    · rw [if_pos (by simp)]; rfl
  · rw [if_pos (by simp)]; rfl
theorem order_gt (x y : Nat) : (double.order x y == some .gt) = (!isn x && !isn y && decide (sv y < sv x)) := by
  rw [order_double]
  cases h : isn x
  · cases k : isn y
    · rw [if_neg (by simp)]
      by_cases hlt : sv y < sv x
      · rw [compare_gt hlt, decide_eq_true hlt]; rfl
      · rw [decide_eq_false hlt]
        by_cases he : sv x = sv y
        · rw [compare_eq he]; rfl
        · rw [compare_lt (by omega)]; rfl
    · rw [if_pos (by simp)]; rfl
  · rw [if_pos (by simp)]; rfl
theorem order_le (x y : Nat) : (double.order x y == some .lt || double.order x y == some .eq) = (!isn x && !isn y && decide (sv x ≤ sv y)) := by
  rw [order_lt, order_eq]
  cases isn x <;> cases isn y <;> simp
  by_cases h : sv x ≤ sv y
  · rw [decide_eq_true h]; simp; omega
  · rw [decide_eq_false h]; simp; omega
theorem order_ge (x y : Nat) : (double.order x y == some .gt || double.order x y == some .eq) = (!isn x && !isn y && decide (sv y ≤ sv x)) := by
  rw [order_gt, order_eq]
  cases isn x <;> cases isn y <;> simp
  by_cases h : sv y ≤ sv x
  · rw [decide_eq_true h]; simp; omega
  · rw [decide_eq_false h]; simp; omega

/-- the sample of a word that is a number -/
def hf : Nat := Nat.pow 2 1073
def ffN (v max : Nat) : Nat := (v * max + hf) / big
def ff (b max : Nat) : Nat := if isn b = true then 0 else if sv b ≤ 0 then 0 else if (big : Int) ≤ sv b then max else ffN (sv b).toNat max
theorem big_half : big = hf * 2 := by rw [big_eq]; unfold hf; decide +kernel
theorem hf_pos : 0 < hf := by unfold hf; decide +kernel
theorem ffN_mono {v u max : Nat} (h : v ≤ u) : ffN v max ≤ ffN u max := Nat.div_le_div_right (Nat.add_le_add_right (Nat.mul_le_mul_right _ h) _)
theorem ffN_big (max : Nat) : ffN big max = max := by
  unfold ffN
  have hb := big_half
  have hp := hf_pos
  generalize hf = c at *
  rw [hb, Nat.div_eq_iff (by omega)]
  have := Nat.mul_comm max (c * 2)
  omega
theorem ffN_zero (max : Nat) : ffN 0 max = 0 := by
  unfold ffN
  have hb := big_half
  have hp := hf_pos
  generalize hf = c at *
  rw [hb, Nat.div_eq_iff (by omega)]
  omega
theorem ff_le (b max : Nat) : ff b max ≤ max := by
  unfold ff
  split
  · omega
  · split
    · omega
    · split
      · omega
      · have := @ffN_mono (sv b).toNat big max (by omega)
        rw [ffN_big] at this; exact this
/-- the sample, as one monotone function of the value -/
theorem ff_num {b : Nat} (max : Nat) (h : isn b = false) : ff b max = ffN (min (sv b).toNat big) max := by
  unfold ff
  rw [if_neg (by rw [h]; simp)]
  split
  · rw [show (sv b).toNat = 0 by omega, Nat.zero_min, ffN_zero]
  · split
    · rw [Nat.min_eq_right (by omega), ffN_big]
    · rw [Nat.min_eq_left (by omega)]
theorem ff_mono {b c : Nat} (max : Nat) (hb : isn b = false) (hc : isn c = false) (h : sv b ≤ sv c) : ff b max ≤ ff c max := by
  rw [ff_num max hb, ff_num max hc]
  exact ffN_mono (by omega)

/-- the parts of a number between 0 and 1 -/
def mm (b : Nat) : Nat := if b / 4503599627370496 = 0 then b % 4503599627370496 else b % 4503599627370496 + 4503599627370496
def nn (b : Nat) : Nat := if b / 4503599627370496 = 0 then 1074 else 1075 - b / 4503599627370496
theorem unit_of {b : Nat} (hw : b < 18446744073709551616) (hn : isn b = false) (h0 : 0 < sv b) (h1 : sv b < big) : 0 < b ∧ b < 0x3FF0000000000000 ∧ sv b = rv b := by
  have hs : b / 9223372036854775808 % 2 ≠ 1 := by
    intro e; unfold sv at h0; rw [if_pos e] at h0; omega
  have hlt : b < 9223372036854775808 := by omega
  have e : sv b = rv b := by unfold sv; rw [if_neg hs, Nat.mod_eq_of_lt hlt]
  rw [e] at h0 h1
  refine ⟨?_, ?_, e⟩
  · refine Nat.pos_of_ne_zero fun h => ?_
    subst h
    have : rv 0 = 0 := by decide
    omega
  · exact rv_lt_iff.1 (show rv b < rv 0x3FF0000000000000 by have : big = rv 0x3FF0000000000000 := rfl; omega)
theorem parts_of {b : Nat} (h1 : b < 0x3FF0000000000000) : rv b = mm b * 2 ^ (1074 - nn b) ∧ 53 ≤ nn b ∧ nn b ≤ 1074 ∧ mm b < 2 ^ 53 := by
  unfold rv mm nn
  by_cases h : b < 4503599627370496
  · have e : b / 4503599627370496 = 0 := by omega
    rw [if_pos h, if_pos e, if_pos e, Nat.mod_eq_of_lt h]
    refine ⟨by simp, by omega, by omega, by omega⟩
  · have e : ¬ b / 4503599627370496 = 0 := by omega
    rw [if_neg h, if_neg e, if_neg e]
    refine ⟨?_, by omega, by omega, by omega⟩
    rw [Nat.add_comm, show 1074 - (1075 - b / 4503599627370496) = b / 4503599627370496 - 1 by omega]
theorem big_parts {n : Nat} (h : n ≤ 1074) : big = 2 ^ n * 2 ^ (1074 - n) := by
  rw [big_eq, ← Nat.pow_add]; congr 1; omega
theorem half_parts {n : Nat} (h0 : 1 ≤ n) (h : n ≤ 1074) : hf = 2 ^ (n - 1) * 2 ^ (1074 - n) := by
  have e := big_parts h
  rw [big_half, show 2 ^ n = 2 ^ (n - 1) * 2 by rw [← Nat.pow_succ]; exact congrArg (fun k => 2 ^ k) (by omega), Nat.mul_right_comm] at e
  omega
theorem ffN_parts {b : Nat} (max : Nat) (h1 : b < 0x3FF0000000000000) : ffN (rv b) max = (mm b * max + 2 ^ (nn b - 1)) / 2 ^ nn b := by
  obtain ⟨e, n1, n2, _⟩ := parts_of h1
  unfold ffN
  rw [e, big_parts n2, half_parts (by omega) n2]
  have k := Nat.two_pow_pos (1074 - nn b)
  generalize 2 ^ (1074 - nn b) = c at *
  rw [show mm b * c * max + 2 ^ (nn b - 1) * c = (mm b * max + 2 ^ (nn b - 1)) * c by rw [Nat.add_mul, Nat.mul_right_comm], Nat.mul_div_mul_right _ _ k]
theorem ffN_small {b : Nat} {max : Nat} (h1 : b < 0x3FF0000000000000) (hm : max ≤ 65535) (hn : 99 < nn b) : ffN (rv b) max = 0 := by
  obtain ⟨_, n1, n2, n3⟩ := parts_of h1
  rw [ffN_parts max h1, Nat.div_eq_zero_iff]
  right
  have e : 2 ^ nn b = 2 ^ (nn b - 1) * 2 := by rw [← Nat.pow_succ]; congr 1; omega
  have g : 2 ^ 99 ≤ 2 ^ (nn b - 1) := Nat.pow_le_pow_right (by decide) (by omega)
  have f : mm b * max ≤ 2 ^ 53 * 65535 := Nat.mul_le_mul (by omega) hm
  have k : 2 ^ 53 * 65535 < 2 ^ 99 := by decide
  omega
end Go.Proofs.Ytgjlmkombpgdgaa.FL
