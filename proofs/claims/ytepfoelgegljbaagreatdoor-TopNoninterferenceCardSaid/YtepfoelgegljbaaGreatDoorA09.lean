/- Part A9. -/
import Derived.Test.YtepfoelgegljbaaGreatDoorA01
import Derived.Test.YtepfoelgegljbaaGreatDoorA02
namespace Go.Proofs.YtepfoelgegljbaaGreatDoor
open Go.RowKit
theorem mul64_call (x y:Int) (w:World) (x0:0 ≤ x) (x1:x ≤ 18446744073709551615) (y0:0 ≤ y) (y1:y ≤ 18446744073709551615) :
  Calls Tryz.prog 128 #[.int .u64 x,.int .u64 y] w fun e w' => e = .returned (.tuple #[.int .u64 (x * y / 18446744073709551616),.int .u64 (x * y % 18446744073709551616)]) ∧ w = w':=by
 have h:=Tryz.bits_Mul64 x.toNat y.toNat (by omega) (by omega) w
 rw [Int.toNat_of_nonneg x0,Int.toNat_of_nonneg y0] at h
 refine h.mono ?_
 rintro e w' ⟨rfl,rfl⟩
 refine ⟨?_,rfl⟩
 rw [Int.natCast_ediv,Int.natCast_emod,Int.natCast_mul,Int.toNat_of_nonneg x0,Int.toNat_of_nonneg y0]
 rfl
theorem quo_small (q a u:Int) (ha:2147483648 ≤ a) (h:q * a ≤ u) (hu:u ≤ 18446744073709551615):q ≤ 8589934592:=by
 apply Int.not_lt.1
 intro c
 have h1:8589934593 * 2147483648 ≤ q * a:=Int.mul_le_mul (by omega) ha (by omega) (by omega)
 omega
theorem rest_small (u a:Int) (ha:0 < a):u - u / a * a < a:=by
 have e:=Int.mul_ediv_add_emod u a
 have h:=Int.emod_lt_of_pos u ha
 rw [Int.mul_comm] at e
 omega
theorem ret_two {k:IntKind} {a b c d:Int} (h:a = b) (h':c = d):Ending.returned (.tuple #[.int k a,.int k c]) = .returned (.tuple #[.int k b,.int k d]):=by rw [h,h']
def divQ (hi lo y:Int):Int:=(hi * 18446744073709551616 + lo) / y
def divR (hi lo y:Int):Int:=(hi * 18446744073709551616 + lo) % y
set_option maxHeartbeats 1000000 in
theorem div64_low (lo y:Int) (w:World) (y0:1 ≤ y) (y1:y ≤ 18446744073709551615) (l0:0 ≤ lo) (l1:lo ≤ 18446744073709551615) :
  Calls Tryz.prog 143 #[.int .u64 0,.int .u64 lo,.int .u64 y] w fun e w' => e = .returned (.tuple #[.int .u64 (divQ 0 lo y),.int .u64 (divR 0 lo y)]) ∧ ∃ n,w' = w.drewN n:=by
 have e1:(y == 0) = false:=by simp; omega
 have hq:divQ 0 lo y = lo / y:=by simp [divQ]
 have hr:divR 0 lo y = lo % y:=by simp [divR]
 rw [hq,hr]
 clear hq hr
 go_enter Tryz.func143,Tryz.ntmps143
 go_wp2
 go_quiet (fail)
 go_wp2
 go_ret2
 exact ⟨rfl,_,rfl⟩
theorem tlDiv641 {p:Prop} (h:p:=by
  clear st
  go_wp2_with fail
  go_round
  case rel => exact ⟨q0 - 1,r0 + A1,hst,by omega,by omega,by omega,by omega,rfl,rfl⟩
  case measure => simp [intOf]; omega):p:=h
theorem tlDiv640 {p:Prop} (h:p:=by
  subst hx
  go_wp2_with fail
  go_loop [18,16] (fun a b => ∃ q r:Int,Hid (Dig V C0 A1 A0 D0 q r) ∧ 0 ≤ q ∧ q ≤ 8589934592 ∧ 0 ≤ r ∧ r ≤ 4294967295 ∧ a = .int .u64 q ∧ b = .int .u64 r) (fun a _ => (intOf a).toNat)
  case atStart => first | exact ⟨V / A1,V - Q' * A1,by rw [hQ']; exact f0,by omega,by omega,by omega,by omega,rfl,rfl⟩ | exact ⟨Q',V - Q' * A1,f0,by omega,by omega,by omega,by omega,rfl,rfl⟩
  case round =>
   obtain ⟨q0,r0,hD0,q00,q10,r00,r10,rfl,rfl⟩:=hrel
   by_cases hq0:4294967296 ≤ q0
   ·have st:=hD0.out.step S0.out (Or.inl hq0)
    by_cases hb:4294967296 ≤ r0 + A1
    ·have hx:q0 - 1 = D0:=st.1.break S0.out hb
     clear st
     subst hx
     go_wp2_with fail
     go_ret2
     exact ⟨ret_two QUO.out REM.out,rfl⟩
    ·have hst:=hd_ st.1
     exact tlDiv641
   ·obtain ⟨pa,pb⟩:=mul_bound q0 A0 4294967295 4294967295 (by omega) (by omega) (by omega) (by omega)
    by_cases ht:4294967296 * r0 + C0 < q0 * A0
    ·have st:=hD0.out.step S0.out (Or.inr ht)
     by_cases hb:4294967296 ≤ r0 + A1
     ·have hx:q0 - 1 = D0:=st.1.break S0.out hb
      have hD1:1 ≤ q0:=by have:=st.2; have:=S0.out.D0; omega
      clear st
      subst hx
      go_wp2_with fail
      go_ret2
      exact ⟨ret_two QUO.out REM.out,rfl⟩
     ·have hst:=hd_ st.1
      have hD1:1 ≤ q0:=by have:=st.2; have:=S0.out.D0; omega
      exact tlDiv641
    ·have hx:q0 = D0:=hD0.out.exit S0.out (by omega)
     subst hx
     go_wp2_with fail
     go_ret2
     exact ⟨ret_two QUO.out REM.out,rfl⟩):p:=h
theorem tlDiv642 {p:Prop} (h:p:=by
  clear st
  go_wp2_with fail
  go_round
  case rel => exact ⟨q1 - 1,r1 + A1,hst,by omega,by omega,by omega,by omega,rfl,rfl⟩
  case measure => simp [intOf]; omega):p:=h
set_option maxHeartbeats 2000000 in
theorem div64_high (hi lo y:Int) (w:World) (h0:1 ≤ hi) (h1:hi < y) (y1:y ≤ 18446744073709551615) (l0:0 ≤ lo) (l1:lo ≤ 18446744073709551615) :
  Calls Tryz.prog 143 #[.int .u64 hi,.int .u64 lo,.int .u64 y] w fun e w' => e = .returned (.tuple #[.int .u64 (divQ hi lo y),.int .u64 (divR hi lo y)]) ∧ w = w':=by
 have n1:(y == 0) = false:=by simp; omega
 have n2:(hi == 0) = false:=by simp; omega
 obtain ⟨s,K,Y,U,L,A1,A0,C1,C0,D1,V,D0,R0,H⟩:=pack hi lo y h0 h1 y1 l0 l1
 obtain ⟨s63,r1,K1,r2,Y0,Y1,r3,r4,rL,U0,U1,L0,L1,r5,r6,r7,r8,q1,q0,e1,e0,V1,R00,R01,quo,rem⟩:=H
 have rs:(64 - (s:Int)).toNat = 64 - s:=by omega
 have ss:(s:Int) ≤ 63:=by omega
 have f1:=hd_ q1.init
 have f0:=hd_ q0.init
 obtain ⟨Q,hQ⟩:∃ Q,U / A1 = Q:=⟨_,rfl⟩
 obtain ⟨Q',hQ'⟩:∃ Q',V / A1 = Q':=⟨_,rfl⟩
 have QUO:=hd_ quo
 have REM:=hd_ rem
 have S1:=hd_ q1
 have S0:=hd_ q0
 have V0:=q0.u0
 have a10:=q1.y10
 have a11:=q1.y11
 have a00:=q1.y00
 have a01:=q1.y01
 have c10:=q1.l0
 have c11:=q1.l1
 have c00:=q0.l0
 have c01:=q0.l1
 clear quo rem q1 q0
 rw [hQ] at f1
 rw [hQ'] at f0
 have g1:=f1.out.e
 have g2:=f1.out.r0
 have g3:=f1.out.q0
 have g4:=f0.out.e
 have g5:=f0.out.r0
 have g6:=f0.out.q0
 have p1:0 ≤ Q * A1:=Int.mul_nonneg g3 (by omega)
 have p2:Q * A1 ≤ U:=by omega
 have p3:0 ≤ Q' * A1:=Int.mul_nonneg g6 (by omega)
 have p4:Q' * A1 ≤ V:=by omega
 clear g1 g2 g3 g4 g5 g6
 go_enter Tryz.func143,Tryz.ntmps143
 go_wp2_with (go_at_call 147; refine (Tryz.bits_LeadingZeros64 _ _ (by omega) (by omega)).mono ?_; rintro e w1 ⟨rfl,rfl⟩)
 have q33:Q ≤ 8589934592:=quo_small Q A1 U a10 p2 U1
 have q33':Q' ≤ 8589934592:=quo_small Q' A1 V a10 p4 V1
 have rr1:U - Q * A1 < A1:=by rw [← hQ]; exact rest_small U A1 (by omega)
 have rr0:V - Q' * A1 < A1:=by rw [← hQ']; exact rest_small V A1 (by omega)
 have d1s:=S1.out.small
 have d0s:=S0.out.small
 have d1p:=S1.out.D0
 have d0p:=S0.out.D0
 have hqA:0 ≤ U / A1:=by rw [hQ]; exact f1.out.q0
 have hqB:0 ≤ V / A1:=by rw [hQ']; exact f0.out.q0
 go_loop [15,16] (fun a b => ∃ q r:Int,Hid (Dig U C1 A1 A0 D1 q r) ∧ 0 ≤ q ∧ q ≤ 8589934592 ∧ 0 ≤ r ∧ r ≤ 4294967295 ∧ a = .int .u64 q ∧ b = .int .u64 r) (fun a _ => (intOf a).toNat)
 case atStart => first | exact ⟨U / A1,U - Q * A1,by rw [hQ]; exact f1,by omega,by omega,by omega,by omega,rfl,rfl⟩ | exact ⟨Q,U - Q * A1,f1,by omega,by omega,by omega,by omega,rfl,rfl⟩
 case round =>
  obtain ⟨q1,r1,hD1,q01,q11,r01,r11,rfl,rfl⟩:=hrel
  by_cases hq1:4294967296 ≤ q1
  ·have st:=hD1.out.step S1.out (Or.inl hq1)
   by_cases hb:4294967296 ≤ r1 + A1
   ·have hx:q1 - 1 = D1:=st.1.break S1.out hb
    clear st
    exact tlDiv640
   ·have hst:=hd_ st.1
    exact tlDiv642
  ·obtain ⟨pa,pb⟩:=mul_bound q1 A0 4294967295 4294967295 (by omega) (by omega) (by omega) (by omega)
   by_cases ht:4294967296 * r1 + C1 < q1 * A0
   ·have st:=hD1.out.step S1.out (Or.inr ht)
    by_cases hb:4294967296 ≤ r1 + A1
    ·have hx:q1 - 1 = D1:=st.1.break S1.out hb
     have hD1:1 ≤ q1:=by have:=st.2; have:=S1.out.D0; omega
     clear st
     exact tlDiv640
    ·have hst:=hd_ st.1
     have hD1:1 ≤ q1:=by have:=st.2; have:=S1.out.D0; omega
     exact tlDiv642
   ·have hx:q1 = D1:=hD1.out.exit S1.out (by omega)
    exact tlDiv640
theorem div64_call (hi lo y:Int) (w:World) (h0:0 ≤ hi) (h1:hi < y) (y1:y ≤ 18446744073709551615) (l0:0 ≤ lo) (l1:lo ≤ 18446744073709551615) :
  Calls Tryz.prog 143 #[.int .u64 hi,.int .u64 lo,.int .u64 y] w fun e w' => e = .returned (.tuple #[.int .u64 (divQ hi lo y),.int .u64 (divR hi lo y)]) ∧ ∃ n,w' = w.drewN n:=by
 by_cases h:hi = 0
 ·subst h; exact div64_low lo y w (by omega) y1 l0 l1
 ·exact (div64_high hi lo y w (by omega) h1 y1 l0 l1).mono fun e w' ⟨he,hw⟩ => ⟨he,0,hw.symm⟩
theorem mul_hi_lo (a b:Int) (a0:0 ≤ a) (a1:a ≤ 18446744073709551615) (b0:0 ≤ b) (b1:b ≤ 18446744073709551615) :
  0 ≤ a * b / 18446744073709551616 ∧ a * b / 18446744073709551616 ≤ 18446744073709551614 ∧ 0 ≤ a * b % 18446744073709551616 ∧ a * b % 18446744073709551616 ≤ 18446744073709551615 ∧ a * b / 18446744073709551616 * 18446744073709551616 + a * b % 18446744073709551616 = a * b:=by
 obtain ⟨p0,p1⟩:=mul_bound a b 18446744073709551615 18446744073709551615 a0 b0 a1 b1
 omega
end Go.Proofs.YtepfoelgegljbaaGreatDoor
