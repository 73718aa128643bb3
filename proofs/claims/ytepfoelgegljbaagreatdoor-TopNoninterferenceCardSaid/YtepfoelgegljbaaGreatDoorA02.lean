/- Part A2. -/
import Derived.Test.YtepfoelgegljbaaGreatDoorProg
import Derived.WalkKit
import Derived.WalkSpells
import Derived.WalkLawsBesides
import Derived.RegionTactic
import Derived.Deep.QuietTactic
import Derived.BigQuiet
import Derived.Lib.Hide
import Derived.Laws.BitsAllLaws
import Derived.Lib.ItoaNum
import Derived.IntWalk
namespace Go.Proofs.YtepfoelgegljbaaGreatDoor
def halfI (n d:Int):Int:=if d = 0 then 0 else if d - n % d ≤ n % d then n / d + 1 else n / d
theorem div_half (n d:Int) (h1:n ≤ 18446744073709551615) (d0:2 ≤ d):n / d ≤ 9223372036854775807:=by
 by_cases h:d = 2
 ·subst h; omega
 ·apply Int.ediv_le_of_le_mul (by omega)
  have:(9223372036854775807:Int) * 3 ≤ 9223372036854775807 * d:=Int.mul_le_mul_of_nonneg_left (by omega) (by omega)
  omega
theorem half_eq (n d:Int) (d0:1 ≤ d):halfI n d = (2 * n + d) / (2 * d):=by
 unfold halfI
 rw [if_neg (by omega)]
 have e:n = d * (n / d) + n % d:=(Int.mul_ediv_add_emod n d).symm
 have r0:0 ≤ n % d:=Int.emod_nonneg _ (by omega)
 have r1:n % d < d:=Int.emod_lt_of_pos _ (by omega)
 have e2:2 * n + d = (2 * (n % d) + d) + (2 * d) * (n / d):=by
  rw [Int.mul_assoc]; omega
 rw [e2,Int.add_mul_ediv_left _ _ (by omega)]
 split
 ·have:(2 * (n % d) + d) / (2 * d) = 1:=by
   apply Int.le_antisymm
   ·have:=Int.ediv_lt_of_lt_mul (a:=2 * (n % d) + d) (b:=2) (c:=2 * d) (by omega) (by omega)
    omega
   ·exact (Int.le_ediv_iff_mul_le (by omega)).2 (by omega)
  omega
 ·have:(2 * (n % d) + d) / (2 * d) = 0:=Int.ediv_eq_zero_of_lt (by omega) (by omega)
  omega
theorem half_nonneg (n d:Int) (h0:0 ≤ n) (d0:0 ≤ d):0 ≤ halfI n d:=by
 by_cases h:d = 0
 ·simp [halfI,h]
 ·rw [half_eq n d (by omega)]; exact Int.ediv_nonneg (by omega) (by omega)
theorem half_mono (n m d:Int) (h:n ≤ m) (d0:0 ≤ d):halfI n d ≤ halfI m d:=by
 by_cases h:d = 0
 ·simp [halfI,h]
 ·rw [half_eq n d (by omega),half_eq m d (by omega)]; exact Int.ediv_le_ediv (by omega) (by omega)
theorem half_mul (q d:Int) (d0:1 ≤ d):halfI (q * d) d = q:=by
 rw [half_eq _ d d0]
 have:2 * (q * d) + d = d + (2 * d) * q:=by rw [Int.mul_comm q d,← Int.mul_assoc]; omega
 rw [this,Int.add_mul_ediv_left _ _ (by omega),Int.ediv_eq_zero_of_lt (by omega) (by omega)]; omega
theorem half_mul_le (n q d:Int) (d0:1 ≤ d) (h:n ≤ q * d):halfI n d ≤ q:=by
 have:=half_mono n (q * d) d h (by omega)
 rwa [half_mul q d d0] at this
theorem half_spec (n d:Int) (d0:1 ≤ d):2 * (halfI n d * d) ≤ 2 * n + d ∧ 2 * n + d < 2 * (halfI n d * d) + 2 * d:=by
 rw [half_eq n d d0]
 have h1:=Int.mul_ediv_self_le (x:=2 * n + d) (k:=2 * d) (by omega)
 have h2:=Int.lt_mul_ediv_self_add (x:=2 * n + d) (k:=2 * d) (by omega)
 have e:2 * d * ((2 * n + d) / (2 * d)) = 2 * ((2 * n + d) / (2 * d) * d):=by rw [Int.mul_assoc,Int.mul_comm d]
 omega
theorem half_255 (N q n:Int) (h:N = 255 * q + n) (h0:0 ≤ n) (h1:n ≤ 255):halfI N 255 = if 128 ≤ n then q + 1 else q:=by
 rw [half_eq _ _ (by omega)]; split <;> omega
theorem half_65535 (N q n:Int) (h:N = 65535 * q + n) (h0:0 ≤ n) (h1:n ≤ 65535):halfI N 65535 = if 32768 ≤ n then q + 1 else q:=by
 rw [half_eq _ _ (by omega)]; split <;> omega
theorem mul_bound (a b m k:Int) (a0:0 ≤ a) (b0:0 ≤ b) (ha:a ≤ m) (hb:b ≤ k):0 ≤ a * b ∧ a * b ≤ m * k :=
 ⟨Int.mul_nonneg a0 b0,Int.mul_le_mul ha hb b0 (Int.le_trans a0 ha)⟩
theorem hd_ {p:Prop} (h:p):Go.RowKit.Hid p:=Go.Lib.hid h
open Go.RowKit
theorem ret_int {k:IntKind} {a b:Int} (h:a = b):Ending.returned (.int k a) = .returned (.int k b):=by rw [h]
theorem val_int {k:IntKind} {a b:Int} (h:a = b):Value.int k a = Value.int k b:=by rw [h]
def wrapU32 (a:Int):Int:=a % 4294967296
theorem u32_mod {a:Int} (h:0 ≤ a ∧ a ≤ 4294967295):a % 4294967296 = a:=by omega
theorem and_u64_65535 (r:Int) (h0:0 ≤ r) (h1:r ≤ 18446744073709551615):bits .and .u64 r 65535 = r % 65536:=by
 rw [u64_and r 65535 h0 (by omega) (by omega) (by omega)]
 have e:r.toNat &&& Int.toNat 65535 = r.toNat % 65536:=nat_mask16 _
 rw [e]; omega
theorem and_u32_255 (r:Int) (h0:0 ≤ r) (h1:r ≤ 4294967295):bits .and .u32 r 255 = r % 256:=by
 rw [u32_and r 255 h0 (by omega) (by omega) (by omega)]
 have e:r.toNat &&& Int.toNat 255 = r.toNat % 256:=nat_mask8 _
 rw [e]; omega
set_option maxHeartbeats 400000 in
theorem half_call (n d:Int) (w:World) (h0:0 ≤ n) (h1:n ≤ 18446744073709551615) (d0:0 ≤ d) (d1:d ≤ 18446744073709551615) :
  Calls Tryz.prog 103 #[.int .u64 n,.int .u64 d] w fun e w' => e = .returned (.int .u64 (halfI n d)) ∧ ∃ k,w' = w.drewN k:=by
 by_cases hd:d = 0
 ·have e:halfI n d = 0:=by simp [halfI,hd]
  rw [e]; subst hd
  go_enter Tryz.func103,Tryz.ntmps103
  go_wp2
  go_ret
  exact ⟨rfl,0,rfl⟩
 ·have hz:(d == 0) = false:=by simpa using hd
  have d2:1 ≤ d:=by omega
  have q1:d = 1 ∨ n / d ≤ 9223372036854775807:=by
   by_cases h:d = 1
   ·exact .inl h
   ·exact .inr (div_half n d h1 (by omega))
  have r0:0 ≤ n % d:=Int.emod_nonneg _ (by omega)
  have r1:n % d < d:=Int.emod_lt_of_pos _ (by omega)
  have q0:0 ≤ n / d:=Int.ediv_nonneg h0 (by omega)
  have Q1:=hd_ q1
  clear q1 hd
  go_enter Tryz.func103,Tryz.ntmps103
  go_wp2
  go_quiet (fail)
  go_wp2
  ·have ht:d - n % d ≤ n % d:=by assumption
   go_ret
   refine ⟨ret_int ?_,_,rfl⟩
   unfold halfI
   rw [if_neg (by omega),if_pos ht,IntWalk.u64_in]
   have:=Q1.out
   omega
  ·have ht:n % d < d - n % d:=by assumption
   go_ret
   refine ⟨ret_int ?_,_,rfl⟩
   unfold halfI
   rw [if_neg (by omega),if_neg (by omega)]
set_option maxHeartbeats 400000 in
theorem by65535_call (n:Int) (w:World) (h0:0 ≤ n) (h1:n ≤ 18446744073709551615) :
  Calls Tryz.prog 110 #[.int .u64 n] w fun e w' => e = .returned (.int .u64 (halfI n 65535)) ∧ w = w':=by
 go_enter Tryz.func110,Tryz.ntmps110
 go_wp2
 go_loop [0,3] (fun x y => ∃ r q:Int,0 ≤ r ∧ r ≤ n ∧ 0 ≤ q ∧ q ≤ n ∧ Hid (n = 65535 * q + r) ∧ x = .int .u64 r ∧ y = .int .u64 q) (fun x _ => (intOf x).toNat)
 case atStart => exact ⟨n,0,by omega,by omega,by omega,by omega,hd_ (by omega),rfl,rfl⟩
 case round =>
  obtain ⟨r,q,r0,r1,q0,q1,H,rfl,rfl⟩:=hrel
  by_cases hlt:65535 < r
  ·have ha:=and_u64_65535 r r0 (by omega)
   have HA:=hd_ ha
   clear ha
   go_wp2
   have h':=H.out
   have ha:=HA.out
   refine ⟨⟨r / 65536 + r % 65536,q + r / 65536,by omega,by omega,by omega,by omega,hd_ (by omega),?_,?_⟩,?_⟩
   ·rw [ha]; exact val_int (IntWalk.u64_in _ (by omega))
   ·exact val_int (IntWalk.u64_in _ (by omega))
   ·rw [ha]
    show Int.toNat (IntKind.u64.wrap (r / 65536 + r % 65536)) < r.toNat
    rw [IntWalk.u64_in _ (by omega)]
    omega
  ·by_cases hg:32768 ≤ r
   ·go_wp2
    go_ret
    have h':=H.out
    refine ⟨ret_int ?_,rfl⟩
    rw [half_65535 n q r h' r0 (by omega),if_pos hg]; exact IntWalk.u64_in _ (by omega)
   ·go_wp2
    go_ret
    have h':=H.out
    refine ⟨ret_int ?_,rfl⟩
    rw [half_65535 n q r h' r0 (by omega),if_neg (by omega)]
set_option maxHeartbeats 400000 in
theorem by255_call (n:Int) (w:World) (h0:0 ≤ n) (h1:n ≤ 4294967295) :
  Calls Tryz.prog 109 #[.int .u32 n] w fun e w' => e = .returned (.int .u32 (halfI n 255)) ∧ w = w':=by
 go_enter Tryz.func109,Tryz.ntmps109
 go_wp2
 go_loop [0,3] (fun x y => ∃ r q:Int,0 ≤ r ∧ r ≤ n ∧ 0 ≤ q ∧ q ≤ n ∧ Hid (n = 255 * q + r) ∧ x = .int .u32 r ∧ y = .int .u32 q) (fun x _ => (intOf x).toNat)
 case atStart => exact ⟨n,0,by omega,by omega,by omega,by omega,hd_ (by omega),rfl,rfl⟩
 case round =>
  obtain ⟨r,q,r0,r1,q0,q1,H,rfl,rfl⟩:=hrel
  by_cases hlt:255 < r
  ·have ha:=and_u32_255 r r0 (by omega)
   have HA:=hd_ ha
   clear ha
   go_wp2
   have h':=H.out
   have ha:=HA.out
   refine ⟨⟨r / 256 + r % 256,q + r / 256,by omega,by omega,by omega,by omega,hd_ (by omega),?_,?_⟩,?_⟩
   ·rw [ha]; exact val_int (u32_mod (by omega))
   ·exact val_int (u32_mod (by omega))
   ·rw [ha]
    show Int.toNat (wrapU32 (r / 256 + r % 256)) < r.toNat
    unfold wrapU32; rw [u32_mod (by omega)]
    omega
  ·by_cases hg:128 ≤ r
   ·go_wp2
    go_ret
    have h':=H.out
    refine ⟨ret_int ?_,rfl⟩
    rw [half_255 n q r h' r0 (by omega),if_pos hg]; exact u32_mod (by omega)
   ·go_wp2
    go_ret
    have h':=H.out
    refine ⟨ret_int ?_,rfl⟩
    rw [half_255 n q r h' r0 (by omega),if_neg (by omega)]
structure Dig (u l y1 y0 D q r:Int):Prop where
 q0:0 ≤ q
 r0:0 ≤ r
 e:u = q * y1 + r
 ge:D ≤ q
structure Set64 (u l y1 y0 D:Int):Prop where
 u0:0 ≤ u
 l0:0 ≤ l
 l1:l ≤ 4294967295
 y10:2147483648 ≤ y1
 y11:y1 ≤ 4294967295
 y00:0 ≤ y0
 y01:y0 ≤ 4294967295
 lt:u < y1 * 4294967296 + y0
 D0:0 ≤ D
 lo:D * (y1 * 4294967296 + y0) ≤ u * 4294967296 + l
 hi:u * 4294967296 + l < (D + 1) * (y1 * 4294967296 + y0)
theorem Set64.small {u l y1 y0 D:Int} (s:Set64 u l y1 y0 D):D ≤ 4294967295:=by
 obtain ⟨u0,l0,l1,y10,y11,y00,y01,lt,D0,lo,hi⟩:=s
 apply Int.not_lt.1
 intro h
 have h1:4294967296 * (y1 * 4294967296 + y0) ≤ D * (y1 * 4294967296 + y0):=Int.mul_le_mul_of_nonneg_right (by omega) (by omega)
 omega
theorem Set64.init {u l y1 y0 D:Int} (s:Set64 u l y1 y0 D):Dig u l y1 y0 D (u / y1) (u - u / y1 * y1):=by
 have s':=s
 obtain ⟨u0,l0,l1,y10,y11,y00,y01,lt,D0,lo,hi⟩:=s
 have e:=Int.mul_ediv_add_emod u y1
 have r0:=Int.emod_nonneg u (b:=y1) (by omega)
 rw [Int.mul_comm] at e
 refine ⟨Int.ediv_nonneg u0 (by omega),by omega,by omega,?_⟩
 apply (Int.le_ediv_iff_mul_le (by omega)).2
 apply Int.not_lt.1
 intro h
 have e2:D * (y1 * 4294967296 + y0) = D * y1 * 4294967296 + D * y0:=by rw [Int.mul_add,Int.mul_assoc]
 have:0 ≤ D * y0:=Int.mul_nonneg D0 y00
 omega
theorem Dig.test {u l y1 y0 D q r:Int} (h:Dig u l y1 y0 D q r):4294967296 * r + l < q * y0 ↔ u * 4294967296 + l < q * (y1 * 4294967296 + y0):=by
 have e2:q * (y1 * 4294967296 + y0) = q * y1 * 4294967296 + q * y0:=by rw [Int.mul_add,Int.mul_assoc]
 have:=h.e
 omega
theorem Dig.step {u l y1 y0 D q r:Int} (h:Dig u l y1 y0 D q r) (s:Set64 u l y1 y0 D) (t:4294967296 ≤ q ∨ 4294967296 * r + l < q * y0):Dig u l y1 y0 D (q - 1) (r + y1) ∧ D < q:=by
 have small:=s.small
 have hD:D < q:=by
  rcases t with t | t
  ·omega
  ·have t:=h.test.1 t
   apply Int.not_le.1
   intro hq
   have h1:q * (y1 * 4294967296 + y0) ≤ D * (y1 * 4294967296 + y0):=Int.mul_le_mul_of_nonneg_right hq (by have:=s.y10; have:=s.y00; omega)
   have:=s.lo
   omega
 have:=h.r0; have:=s.y10; have:=h.e; have:=s.D0
 refine ⟨⟨by omega,by omega,?_,by omega⟩,hD⟩
 rw [Int.sub_mul]; omega
theorem Dig.exit {u l y1 y0 D q r:Int} (h:Dig u l y1 y0 D q r) (s:Set64 u l y1 y0 D) (t:q * y0 ≤ 4294967296 * r + l):q = D:=by
 have h1:q * (y1 * 4294967296 + y0) ≤ u * 4294967296 + l:=Int.not_lt.1 fun c => by have:=h.test.2 c; omega
 have:=h.ge
 apply Int.le_antisymm _ this
 have hi:=s.hi
 apply Int.not_lt.1
 intro c
 have h2:(D + 1) * (y1 * 4294967296 + y0) ≤ q * (y1 * 4294967296 + y0):=Int.mul_le_mul_of_nonneg_right (by omega) (by have:=s.y10; have:=s.y00; omega)
 omega
theorem Dig.break {u l y1 y0 D q r:Int} (h:Dig u l y1 y0 D q r) (s:Set64 u l y1 y0 D) (t:4294967296 ≤ r):q = D:=by
 apply h.exit s
 have hq:q ≤ 4294967295:=by
  apply Int.not_lt.1
  intro c
  have h1:4294967296 * y1 ≤ q * y1:=Int.mul_le_mul_of_nonneg_right (by omega) (by have:=s.y10; omega)
  have:=h.e; have:=s.lt; have:=s.y01
  omega
 have h2:q * y0 ≤ 4294967295 * 4294967295:=Int.mul_le_mul hq s.y01 s.y00 (by omega)
 have:=s.l0
 omega
theorem div_of_digits (u l1 l0 y D1 D0:Int) (hy:0 < y) (c0:D0 * y ≤ (u * 4294967296 + l1 - D1 * y) * 4294967296 + l0)
  (c1:(u * 4294967296 + l1 - D1 * y) * 4294967296 + l0 < (D0 + 1) * y) :
  (u * 18446744073709551616 + l1 * 4294967296 + l0) / y = D1 * 4294967296 + D0 ∧
  (u * 18446744073709551616 + l1 * 4294967296 + l0) % y = (u * 4294967296 + l1 - D1 * y) * 4294967296 + l0 - D0 * y:=by
 have e:u * 18446744073709551616 + l1 * 4294967296 + l0 = ((u * 4294967296 + l1 - D1 * y) * 4294967296 + l0 - D0 * y) + y * (D1 * 4294967296 + D0):=by
  have h1:y * (D1 * 4294967296 + D0) = D1 * y * 4294967296 + D0 * y:=by
   rw [Int.mul_comm,Int.add_mul,Int.mul_right_comm]
  rw [h1]; omega
 have h0:0 ≤ (u * 4294967296 + l1 - D1 * y) * 4294967296 + l0 - D0 * y:=by omega
 have h2:(u * 4294967296 + l1 - D1 * y) * 4294967296 + l0 - D0 * y < y:=by
  rw [Int.add_mul] at c1; omega
 rw [e,Int.add_mul_ediv_left _ _ (by omega),Int.add_mul_emod_self_left,Int.ediv_eq_zero_of_lt h0 h2,Int.emod_eq_of_lt h0 h2]
 exact ⟨by omega,rfl⟩
theorem div_shift (M d k:Int) (hk:0 < k):M * k / (d * k) = M / d ∧ M * k % (d * k) / k = M % d:=by
 refine ⟨Int.mul_ediv_mul_of_pos_left _ _ hk,?_⟩
 rw [Int.mul_comm M,Int.mul_comm d,Int.mul_emod_mul_of_pos _ _ hk,Int.mul_comm]
 exact Int.mul_ediv_cancel _ (by omega)
theorem bitLen_bounds (y:Int) (h0:1 ≤ y) (h1:y ≤ 18446744073709551615) :
  1 ≤ Lib.bitLen y.toNat ∧ Lib.bitLen y.toNat ≤ 64 ∧ 2 ^ (Lib.bitLen y.toNat - 1) ≤ y.toNat ∧ y.toNat < 2 ^ Lib.bitLen y.toNat:=by
 obtain ⟨a,b,c⟩:=Lib.bitLenAux_bounds 64 y.toNat (by omega) (by omega)
 exact ⟨a,Lib.bitLen_le _ 64 (by omega) (by omega),b,c⟩
theorem pow2_cast (s:Nat):(2:Int) ^ s = ((2 ^ s:Nat):Int):=by rw [Int.natCast_pow]; rfl
theorem pow2_pos (s:Nat):1 ≤ (2:Int) ^ s:=by rw [pow2_cast]; have:=Nat.two_pow_pos s; omega
theorem or_join (a b:Int) (s:Nat) (a0:0 ≤ a) (a1:a < 18446744073709551616) (b0:0 ≤ b) (b1:b < 2 ^ s) (hb:b < 18446744073709551616) (hd:a % 2 ^ s = 0) :
  bits .or .u64 a b = a + b:=by
 rw [u64_or a b a0 a1 b0 hb]
 have e:=nat_join s a.toNat b.toNat (by
  have:((a.toNat % 2 ^ s:Nat):Int) = 0:=by
   rw [Int.natCast_emod,Int.toNat_of_nonneg a0,← pow2_cast]; exact hd
  omega) (by
  have:((b.toNat:Nat):Int) < ((2 ^ s:Nat):Int):=by rw [Int.toNat_of_nonneg b0,← pow2_cast]; exact b1
  omega)
 rw [e]; omega
theorem div64_setup (hi lo y:Int) (h0:1 ≤ hi) (h1:hi < y) (y1:y ≤ 18446744073709551615) (l0:0 ≤ lo) (l1:lo ≤ 18446744073709551615) :
  ∃ (s:Nat) (K Y U L:Int),s ≤ 63 ∧ (64 - (Lib.bitLen y.toNat:Int)) = (s:Int) ∧ 1 ≤ K ∧ Y = y * K ∧ (2:Int) ^ s = K ∧ 9223372036854775808 ≤ Y ∧ Y ≤ 18446744073709551615 ∧
   IntKind.u64.wrap (y * K) = Y ∧ bits .or .u64 (IntKind.u64.wrap (hi * K)) (lo / 2 ^ (64 - s)) = U ∧ IntKind.u64.wrap (lo * K) = L ∧
   0 ≤ U ∧ U < Y ∧ 0 ≤ L ∧ L ≤ 18446744073709551615 ∧ U * 18446744073709551616 + L = (hi * 18446744073709551616 + lo) * K:=by
 obtain ⟨n1,n2,n3,n4⟩:=bitLen_bounds y (by omega) y1
 generalize Lib.bitLen y.toNat = n at *
 obtain ⟨s,hs⟩:∃ s:Nat,s + n = 64:=⟨64 - n,by omega⟩
 obtain ⟨K,hK⟩:∃ K:Int,(2:Int) ^ s = K:=⟨_,rfl⟩
 obtain ⟨T,hT⟩:∃ T:Int,(2:Int) ^ n = T:=⟨_,rfl⟩
 have hK0:1 ≤ K:=by rw [← hK]; exact pow2_pos s
 have hT0:1 ≤ T:=by rw [← hT]; exact pow2_pos n
 have hKT:K * T = 18446744073709551616:=by
  rw [← hK,← hT,← Int.pow_add,hs]; rfl
 have hyT:y < T:=by
  have:((y.toNat:Nat):Int) < ((2 ^ n:Nat):Int):=Int.ofNat_lt.2 n4
  rw [← pow2_cast,hT] at this
  omega
 have hyT2:T ≤ 2 * y:=by
  have h:((2 ^ (n - 1):Nat):Int) ≤ ((y.toNat:Nat):Int):=Int.ofNat_le.2 n3
  rw [← pow2_cast] at h
  have e:(2:Int) ^ n = 2 ^ (n - 1) * 2:=by
   conv => lhs; rw [show n = (n - 1) + 1 by omega,Int.pow_succ]
  rw [← hT,e]
  omega
 have b1:y * K ≤ 18446744073709551615:=by
  have h:(y + 1) * K ≤ T * K:=Int.mul_le_mul_of_nonneg_right (by omega) (by omega)
  rw [Int.mul_comm T,hKT,Int.add_mul] at h
  omega
 have b2:9223372036854775808 ≤ y * K:=by
  have h:T * K ≤ 2 * y * K:=Int.mul_le_mul_of_nonneg_right hyT2 (by omega)
  rw [Int.mul_comm T,hKT,Int.mul_assoc] at h
  omega
 have b3:hi * K + K ≤ y * K:=by
  have h:(hi + 1) * K ≤ y * K:=Int.mul_le_mul_of_nonneg_right (by omega) (by omega)
  rw [Int.add_mul] at h; omega
 have b4:0 ≤ hi * K:=Int.mul_nonneg (by omega) (by omega)
 have hns:64 - s = n:=by omega
 have c0:0 ≤ lo / T:=Int.ediv_nonneg l0 (by omega)
 have c1:lo / T < K:=Int.ediv_lt_of_lt_mul (by omega) (by rw [hKT]; omega)
 have e1:lo * K / 18446744073709551616 = lo / T:=by
  rw [← hKT,Int.mul_comm K T]; exact Int.mul_ediv_mul_of_pos_left _ _ (by omega)
 have w1:IntKind.u64.wrap (hi * K) = hi * K:=IntWalk.u64_in _ (by omega)
 have w2:IntKind.u64.wrap (y * K) = y * K:=IntWalk.u64_in _ (by omega)
 have hOr:bits .or .u64 (hi * K) (lo / 2 ^ (64 - s)) = hi * K + lo / T:=by
  rw [hns,hT]
  exact or_join _ _ s b4 (by omega) c0 (by rw [hK]; exact c1) (by omega) (by rw [hK]; exact Int.mul_emod_left _ _)
 refine ⟨s,K,y * K,hi * K + lo / T,lo * K % 18446744073709551616,by omega,by omega,hK0,rfl,hK,b2,b1,w2,by rw [w1]; exact hOr,IntKind.wrap_u64 _,by omega,by omega,by omega,by omega,?_⟩
 have e2:=Int.mul_ediv_add_emod (lo * K) 18446744073709551616
 rw [e1] at e2
 rw [Int.add_mul,Int.add_mul,Int.mul_right_comm hi]
 omega
structure Pack (hi lo y:Int) (s:Nat) (K Y U L A1 A0 C1 C0 D1 V D0 R0:Int):Prop where
 s63:s ≤ 63
 r1:(64 - (Lib.bitLen y.toNat:Int)) = (s:Int)
 K1:1 ≤ K
 r2:(2:Int) ^ s = K
 Y0:9223372036854775808 ≤ Y
 Y1:Y ≤ 18446744073709551615
 r3:IntKind.u64.wrap (y * K) = Y
 r4:bits .or .u64 (IntKind.u64.wrap (hi * K)) (lo / 2 ^ (64 - s)) = U
 rL:IntKind.u64.wrap (lo * K) = L
 U0:0 ≤ U
 U1:U ≤ 18446744073709551615
 L0:0 ≤ L
 L1:L ≤ 18446744073709551615
 r5:Y / 4294967296 = A1
 r6:bits .and .u64 Y 4294967295 = A0
 r7:L / 4294967296 = C1
 r8:bits .and .u64 L 4294967295 = C0
 q1:Set64 U C1 A1 A0 D1
 q0:Set64 V C0 A1 A0 D0
 e1:IntKind.u64.wrap (IntKind.u64.wrap (IntKind.u64.wrap (U * 4294967296) + C1) - IntKind.u64.wrap (D1 * Y)) = V
 e0:IntKind.u64.wrap (IntKind.u64.wrap (IntKind.u64.wrap (V * 4294967296) + C0) - IntKind.u64.wrap (D0 * Y)) = R0
 V1:V ≤ 18446744073709551615
 R00:0 ≤ R0
 R01:R0 ≤ 18446744073709551615
 quo:D1 * 4294967296 + D0 = (hi * 18446744073709551616 + lo) / y
 rem:R0 / K = (hi * 18446744073709551616 + lo) % y
theorem and_mask32 (r:Int) (h0:0 ≤ r) (h1:r ≤ 18446744073709551615):bits .and .u64 r 4294967295 = r % 4294967296:=by
 rw [u64_and r 4294967295 h0 (by omega) (by omega) (by omega)]
 have e:r.toNat &&& Int.toNat 4294967295 = r.toNat % 4294967296:=nat_mask32 _
 rw [e]; omega
theorem wrap_digit (u l p:Int) (h0:0 ≤ u * 4294967296 + l - p) (h1:u * 4294967296 + l - p ≤ 18446744073709551615) :
  IntKind.u64.wrap (IntKind.u64.wrap (IntKind.u64.wrap (u * 4294967296) + l) - IntKind.u64.wrap p) = u * 4294967296 + l - p:=by
 simp only [IntKind.wrap_u64]
 omega
theorem pack (hi lo y:Int) (h0:1 ≤ hi) (h1:hi < y) (y1:y ≤ 18446744073709551615) (l0:0 ≤ lo) (l1:lo ≤ 18446744073709551615) :
  ∃ (s:Nat) (K Y U L A1 A0 C1 C0 D1 V D0 R0:Int),Pack hi lo y s K Y U L A1 A0 C1 C0 D1 V D0 R0:=by
 obtain ⟨s,K,Y,U,L,s63,r1,K1,hY,r2,Y0,Y1,r3,r4,rL,U0,U1,L0,L1,hN⟩:=div64_setup hi lo y h0 h1 y1 l0 l1
 have hA1:Y = Y / 4294967296 * 4294967296 + Y % 4294967296:=by omega
 have a0:2147483648 ≤ Y / 4294967296:=by omega
 have a1:Y / 4294967296 ≤ 4294967295:=by omega
 have a2:0 ≤ Y % 4294967296:=by omega
 have a3:Y % 4294967296 ≤ 4294967295:=by omega
 have c0:0 ≤ L / 4294967296:=by omega
 have c1:L / 4294967296 ≤ 4294967295:=by omega
 have c2:0 ≤ L % 4294967296:=by omega
 have c3:L % 4294967296 ≤ 4294967295:=by omega
 have hL:L = L / 4294967296 * 4294967296 + L % 4294967296:=by omega
 have hr6:=and_mask32 Y (by omega) Y1
 have hr8:=and_mask32 L L0 L1
 generalize hA:Y / 4294967296 = A1 at *
 generalize hB:Y % 4294967296 = A0 at *
 generalize hC:L / 4294967296 = C1 at *
 generalize hD:L % 4294967296 = C0 at *
 have digit:∀ u l:Int,0 ≤ u → u < Y → 0 ≤ l → l ≤ 4294967295 → Set64 u l A1 A0 ((u * 4294967296 + l) / Y) ∧ 0 ≤ u * 4294967296 + l - (u * 4294967296 + l) / Y * Y ∧ u * 4294967296 + l - (u * 4294967296 + l) / Y * Y < Y:=by
  intro u l u0 u1 l0 l1
  have e:=Int.mul_ediv_add_emod (u * 4294967296 + l) Y
  have m0:=Int.emod_nonneg (u * 4294967296 + l) (b:=Y) (by omega)
  have m1:=Int.emod_lt_of_pos (u * 4294967296 + l) (b:=Y) (by omega)
  rw [Int.mul_comm] at e
  refine ⟨⟨u0,l0,l1,a0,a1,a2,a3,by omega,Int.ediv_nonneg (by omega) (by omega),?_,?_⟩,by omega,by omega⟩
  ·rw [← hA1]; omega
  ·rw [← hA1,Int.add_mul]; omega
 obtain ⟨s1,v0,v1⟩:=digit U C1 U0 U1 c0 c1
 obtain ⟨D1,hD1⟩:∃ D1,(U * 4294967296 + C1) / Y = D1:=⟨_,rfl⟩
 rw [hD1] at s1 v0 v1
 obtain ⟨V,hV⟩:∃ V,U * 4294967296 + C1 - D1 * Y = V:=⟨_,rfl⟩
 have e1:=wrap_digit U C1 (D1 * Y) v0 (by omega)
 rw [hV] at v0 v1 e1
 obtain ⟨s0,w0,w1⟩:=digit V C0 v0 v1 c2 c3
 obtain ⟨D0,hD0⟩:∃ D0,(V * 4294967296 + C0) / Y = D0:=⟨_,rfl⟩
 rw [hD0] at s0 w0 w1
 obtain ⟨R0,hR⟩:∃ R0,V * 4294967296 + C0 - D0 * Y = R0:=⟨_,rfl⟩
 have e0:=wrap_digit V C0 (D0 * Y) w0 (by omega)
 rw [hR] at w0 w1 e0
 have hdiv:=div_of_digits U C1 C0 Y D1 D0 (by omega) (by rw [hV]; omega) (by rw [hV,Int.add_mul]; omega)
 rw [hV,hR] at hdiv
 have hN':U * 18446744073709551616 + C1 * 4294967296 + C0 = (hi * 18446744073709551616 + lo) * K:=by omega
 have hsh:=div_shift (hi * 18446744073709551616 + lo) y K (by omega)
 rw [hN',hY] at hdiv
 exact ⟨s,K,Y,U,L,A1,A0,C1,C0,D1,V,D0,R0,s63,r1,K1,r2,Y0,Y1,r3,r4,rL,U0,by omega,L0,L1,hA,hr6,hC,hr8,s1,s0,e1,e0,by omega,w0,by omega,by rw [← hsh.1]; exact hdiv.1.symm,by rw [← hsh.2,hdiv.2]⟩
set_option linter.unusedVariables false
theorem two_pow_pos (k:Nat):(1:Int) ≤ 2 ^ k:=pow2_pos k
end Go.Proofs.YtepfoelgegljbaaGreatDoor
