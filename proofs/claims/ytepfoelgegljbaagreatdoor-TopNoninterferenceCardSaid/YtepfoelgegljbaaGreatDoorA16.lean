/- Part A16. -/
import Derived.Test.YtepfoelgegljbaaGreatDoorA15
namespace Go.Proofs.YtepfoelgegljbaaGreatDoor
set_option maxRecDepth 100000
open Go.RowKit
set_option linter.unusedVariables false
theorem alp4 {a b m:Int} (a1:a ≤ m) (b1:b ≤ m):alpI 4 a b m = halfI (m * a + (m - a) * b) m:=by
 unfold alpI faI fbI
 rw [if_pos (show opOk 4 a b m = true from decide_eq_true (by omega)),if_pos (show opOk 4 a b m = true from decide_eq_true (by omega))]
 rfl
theorem sh4 {f g m:Int} (f1:f ≤ m) (g1:g ≤ m):shI 4 f g m = halfI (m * f + (m - f) * g) m:=shI_3 (decide_eq_true (by omega)) rfl
theorem sample_ok {m px pyy pz pa pf:Int} (h:PxOk m px pyy pz pa pf) (w:World):Calls Tryz.prog 54 #[.agg #[.int .u16 (px),.int .u16 (pyy),.int .u16 (pz),.int .u16 (pa),.int .u16 (pf)],.int .u16 m] w fun e w' => e = .returned (.bool true) ∧ ∃ p,w' = more w p:=by
 have hv:=valid_call px pyy pz pa pf m w
 rw [h.valid] at hv
 exact calls_ext1 hv
theorem step_ex {kn:Bool} {op k m px pyy pz pa pf x y z a o f bx byy bz ba:Int} (hm:m = 255 ∨ m = 65535) (hp:PxOk m px pyy pz pa pf) (hc:AcOk m x y z a o f bx byy bz ba)
  (o0:1 ≤ op) (o1:op ≤ 12) (k0:1 ≤ k) (k1:k ≤ 12) (hk:kn = true → op = 4) (hi:op = 4 ∨ o = a) :
  ∃ X Y Z A O Fs,AcOk m X Y Z A O Fs bx byy bz ba ∧ (kn = false → o = a → O = A) ∧ (k = 1 → op = 4 → x = 0 → y = 0 → z = 0 → a = 0 → o = 0 → f = 0 → bx = 0 → byy = 0 → bz = 0 → ba = 0 → X = px ∧ Y = pyy ∧ Z = pz ∧ A = pa ∧ O = pa ∧ Fs = pf) ∧
   ∀ w,Ruled w → Calls Tryz.prog 101 #[.bool kn,.int .i64 op,.int .i64 k,.int .u16 m,.agg #[.int .u16 (px),.int .u16 (pyy),.int .u16 (pz),.int .u16 (pa),.int .u16 (pf)],.agg #[.int .u16 (x),.int .u16 (y),.int .u16 (z),.int .u16 (a),.int .u16 (o),.int .u16 (f)],.agg #[.int .u16 (bx),.int .u16 (byy),.int .u16 (bz),.int .u16 (ba),.int .u16 (ba)]] w fun e w' => e = .returned (.tuple #[.agg #[.int .u16 (X),.int .u16 (Y),.int .u16 (Z),.int .u16 (A),.int .u16 (O),.int .u16 (Fs)],.bool true]) ∧ ∃ p,w' = more w p:=by
 have hv:=fun w => gValid_call hm hc w
 have hs:=fun w => sample_ok hp w
 obtain ⟨x0,y0,z0,oo,xa,ya,za,oa,of',am,fm,hb⟩:=hc
 obtain ⟨bx0,by0,bz0,bxa,bya,bza,baf,bam⟩:=hb
 have hb:PxOk m bx byy bz ba ba:=⟨bx0,by0,bz0,bxa,bya,bza,baf,bam⟩
 obtain ⟨px0,py0,pz0,pxa,pya,pza,paf,pfm⟩:=hp
 have m1:1 ≤ m:=by omega
 have m2:m ≤ 65535:=by omega
 have shb:=shI_bounds op pf f m (by omega) (by omega) (by omega)
 cases kn with
 | true =>
  obtain rfl:=hk rfl
  obtain ⟨V0,v00,v01,v02,c0⟩:=kColor_ex (k:=k) (m:=m) (s:=px) (a:=pa) (f:=pf) (c:=x) (d:=bx) (b:=ba) k0 k1 hm px0 pxa paf pfm x0 (by omega) bx0 bxa bam
  obtain ⟨V1,v10,v11,v12,c1⟩:=kColor_ex (k:=k) (m:=m) (s:=pyy) (a:=pa) (f:=pf) (c:=y) (d:=byy) (b:=ba) k0 k1 hm py0 pya paf pfm y0 (by omega) by0 bya bam
  obtain ⟨V2,v20,v21,v22,c2⟩:=kColor_ex (k:=k) (m:=m) (s:=pz) (a:=pa) (f:=pf) (c:=z) (d:=bz) (b:=ba) k0 k1 hm pz0 pza paf pfm z0 (by omega) bz0 bza bam
  have ka:=kal_bounds (m:=m) (a:=pa) (f:=pf) (c:=a) (b:=ba) m1 (by omega) paf pfm (by omega) am (by omega) bam
  have ko:=kal_bounds (m:=m) (a:=pa) (f:=pf) (c:=o) (b:=0) m1 (by omega) paf pfm oo (by omega) (by omega) (by omega)
  have hA:=fun w => kAlpha_call (m:=m) (a:=pa) (f:=pf) (c:=a) (b:=ba) hm (by omega) paf pfm (by omega) am (by omega) bam w
  have hO:=fun w => kOwn_call (m:=m) (a:=pa) (f:=pf) (c:=o) hm (by omega) paf pfm oo (by omega) w
  have hS:=fun w h => shape_op 4 pf f m w h (by omega) (by omega) (by omega) (by omega) (by omega) m2
  have n1:(m - pf) * o ≤ (m - pf) * a:=Int.mul_le_mul_of_nonneg_left oa (by omega)
  have n2:0 ≤ (pf - pa) * ba:=Int.mul_nonneg (by omega) (by omega)
  have n3:kalI m pa pf o 0 ≤ kalI m pa pf a ba:=half_mono _ _ _ (by unfold kalN; omega) (by omega)
  have n4:(m - pf) * o ≤ (m - pf) * f:=Int.mul_le_mul_of_nonneg_left of' (by omega)
  have n5:m * pa ≤ m * pf:=Int.mul_le_mul_of_nonneg_left paf (by omega)
  have n6:kalI m pa pf o 0 ≤ shI 4 pf f m:=by
   rw [sh4 pfm fm]
   exact half_mono _ _ _ (by unfold kalN; omega) (by omega)
  have l0:=v01 a xa am
  have l1:=v11 a ya am
  have l2:=v21 a za am
  refine ⟨V0,V1,V2,_,_,_,⟨v00,v10,v20,ko.2.2.1,l0,l1,l2,n3,n6,ka.2.2.2,shb.2,hb⟩,(fun h => by cases h),?_,fun w hR => stepK_walk hv hs (fun w h => replace_walk ⟨v00,by omega⟩ c0 c1 c2 hA hO hS w h) w hR⟩
  rintro rfl _ rfl rfl rfl rfl rfl rfl rfl rfl rfl rfl
  have fr:=fresh_law 4 pa pf m rfl (by omega) (by omega) (by omega) pfm m1
  have e:kalI m pa pf 0 0 = pa:=by
   unfold kalI kalN
   rw [Int.mul_zero,Int.mul_zero,show 0 + 0 + m * pa = pa * m by rw [Int.mul_comm]; omega]
   exact half_mul pa m m1
  exact ⟨v02 rfl rfl rfl rfl,v12 rfl rfl rfl rfl,v22 rfl rfl rfl rfl,e,e,fr.2⟩
 | false =>
  obtain ⟨V0,v00,v01,v02,c0⟩:=mix_ex (k:=op) (c:=k) (m:=m) (s:=px) (a:=pa) (d:=x) (b:=a) o0 o1 hm px0 pxa (by omega) x0 xa am k0 k1
  obtain ⟨V1,v10,v11,v12,c1⟩:=mix_ex (k:=op) (c:=k) (m:=m) (s:=pyy) (a:=pa) (d:=y) (b:=a) o0 o1 hm py0 pya (by omega) y0 ya am k0 k1
  obtain ⟨V2,v20,v21,v22,c2⟩:=mix_ex (k:=op) (c:=k) (m:=m) (s:=pz) (a:=pa) (d:=z) (b:=a) o0 o1 hm pz0 pza (by omega) z0 za am k0 k1
  have ka:=alp_bounds op pa a m (by omega) (by omega) (by omega)
  have ko:=alp_bounds op pa o m (by omega) (by omega) (by omega)
  have hA:=fun w h => alpha_op op pa a m w h (by omega) (by omega) (by omega) (by omega) (by omega) m2
  have hO:=fun w h => alpha_op op pa o m w h (by omega) (by omega) oo (by omega) (by omega) m2
  have hS:=fun w h => shape_op op pf f m w h (by omega) (by omega) (by omega) (by omega) (by omega) m2
  have n6:alpI op pa o m ≤ shI op pf f m:=alp_le_sh op pa o pf f m o0 o1 (by omega) oo paf of' pfm fm m1
  have n3:alpI op pa o m ≤ alpI op pa a m:=by
   rcases hi with rfl | rfl
   ·rw [alp4 (by omega) (by omega),alp4 (by omega) am]
    have n1:(m - pa) * o ≤ (m - pa) * a:=Int.mul_le_mul_of_nonneg_left oa (by omega)
    exact half_mono _ _ _ (by omega) (by omega)
   ·exact Int.le_refl _
  refine ⟨V0,V1,V2,_,_,_,⟨v00,v10,v20,ko.1,v01,v11,v21,n3,n6,ka.2,shb.2,hb⟩,(fun _ h => by rw [h]),?_,fun w hR => step_walk hv hs c0 c1 c2 hA hO hS w hR⟩
  rintro rfl rfl rfl rfl rfl rfl rfl rfl rfl rfl rfl rfl
  have fr:=fresh_law 4 pa pf m rfl (by omega) (by omega) (by omega) pfm m1
  exact ⟨v02 rfl rfl rfl rfl,v12 rfl rfl rfl rfl,v22 rfl rfl rfl rfl,fr.1,fr.1,fr.2⟩
theorem result_call {m x y z a o f bx byy bz ba:Int} (hm:m = 255 ∨ m = 65535) (hc:AcOk m x y z a o f bx byy bz ba) (w:World) :
  Calls Tryz.prog 87 #[.agg #[.int .u16 (x),.int .u16 (y),.int .u16 (z),.int .u16 (a),.int .u16 (o),.int .u16 (f)],.agg #[.int .u16 (bx),.int .u16 (byy),.int .u16 (bz),.int .u16 (ba),.int .u16 (ba)],.int .u16 m] w fun e w' => e = .returned (.tuple #[.agg #[.int .u16 (rmI x bx o m),.int .u16 (rmI y byy o m),.int .u16 (rmI z bz o m),.int .u16 (o),.int .u16 (f)],.bool true]) ∧ ∃ p,w' = more w p:=by
 have hv:=fun w => gValid_call hm hc w
 obtain ⟨x0,y0,z0,oo,xa,ya,za,oa,of',am,fm,hb⟩:=hc
 obtain ⟨bx0,by0,bz0,bxa,bya,bza,baf,bam⟩:=hb
 exact result_walk hv (fun w => removed_call x0 (by omega) bx0 (by omega) oo (by omega) (by omega) (by omega) w) (fun w => removed_call y0 (by omega) by0 (by omega) oo (by omega) (by omega) (by omega) w) (fun w => removed_call z0 (by omega) bz0 (by omega) oo (by omega) (by omega) (by omega) w) w
theorem result_ok {m x y z a o f bx byy bz ba:Int} (hm:m = 255 ∨ m = 65535) (hc:AcOk m x y z a o f bx byy bz ba):PxOk m (rmI x bx o m) (rmI y byy o m) (rmI z bz o m) o f:=by
 have r:=fun c k => @rm_bounds c k o m hc.o0 (by omega)
 exact ⟨(r _ _).1,(r _ _).1,(r _ _).1,(r _ _).2,(r _ _).2,(r _ _).2,hc.of,hc.fm⟩
theorem ruled_bel {w W:World} (h:Ruled w) (e:Bel w W):Ruled W:=by
 have hs:=ruled_size h
 obtain ⟨T,fr,h⟩:=h
 exact ⟨T,fr,(e.block _ hs).trans h⟩
def Px.ok (m:Int) (p:Px):Prop:=PxOk m p.x p.y p.z p.a p.f
def Ac.ok (m:Int) (c:Ac) (b:Px):Prop:=AcOk m c.x c.y c.z c.a c.o c.f b.x b.y b.z b.a ∧ b.f = b.a
end Go.Proofs.YtepfoelgegljbaaGreatDoor
