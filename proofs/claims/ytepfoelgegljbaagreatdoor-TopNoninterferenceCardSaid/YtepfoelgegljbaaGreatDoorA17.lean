/- Part A17. -/
import Derived.Test.YtepfoelgegljbaaGreatDoorA08
import Derived.Test.YtepfoelgegljbaaGreatDoorA16
namespace Go.Proofs.YtepfoelgegljbaaGreatDoor
set_option maxRecDepth 100000
open Go.RowKit
set_option linter.unusedVariables false
theorem info_px:(Tryz.prog.info? 32).map (fun i => (i.zero,i.size,i.bytes)) = some (some (.agg #[.int .u16 0,.int .u16 0,.int .u16 0,.int .u16 0,.int .u16 0]),5,10):=by kernel_rfl
theorem info_ac:(Tryz.prog.info? 151).map (fun i => (i.zero,i.size,i.bytes)) = some (some (.agg #[.int .u16 0,.int .u16 0,.int .u16 0,.int .u16 0,.int .u16 0,.int .u16 0]),6,12):=by kernel_rfl
def resF (m:Int) (c:Ac) (b:Px):Px:=⟨rmI c.x b.x c.o m,rmI c.y b.y c.o m,rmI c.z b.z c.o m,c.o,c.f⟩
theorem resF_ok {m:Int} {c:Ac} {b:Px} (hm:m = 255 ∨ m = 65535) (h:Ac.ok m c b):Px.ok m (resF m c b):=result_ok hm h.1
theorem resF_call {m:Int} {c:Ac} {b:Px} (hm:m = 255 ∨ m = 65535) (h:Ac.ok m c b) (w:World) :
  Calls Tryz.prog 87 #[.agg #[.int .u16 (c.x),.int .u16 (c.y),.int .u16 (c.z),.int .u16 (c.a),.int .u16 (c.o),.int .u16 (c.f)],.agg #[.int .u16 (b.x),.int .u16 (b.y),.int .u16 (b.z),.int .u16 (b.a),.int .u16 (b.f)],.int .u16 m] w fun e w' => e = .returned (.tuple #[.agg #[.int .u16 ((resF m c b).x),.int .u16 ((resF m c b).y),.int .u16 ((resF m c b).z),.int .u16 ((resF m c b).a),.int .u16 ((resF m c b).f)],.bool true]) ∧ ∃ p,w' = more w p:=by
 have k:=result_call hm h.1 w
 rw [show b.a = b.f from h.2.symm] at k
 have h2:=h.2
 exact (h2 ▸ k)
def resL (m:Int) (cs:List Ac) (bs:List Px):List Px:=List.zipWith (resF m) cs bs
theorem tlTSpan1 {p:Prop} (h:p:=by
  refine ⟨_,?_,rfl,rfl,?_,?_⟩
  ·repeat (first | assumption | exact Ext.refl _ | exact ext_drew _ | refine ext_drewW ?_ | refine Ext.mored ?_ _ | refine Ext.alloc ?_ _)
  ·repeat (first | refine at_more ?_ | refine at_drew1 ?_ | (refine at_new ?_; first | with_reducible rfl | (simp [more_size]; done) | (simp [more_size]; omega)) | refine at_old ?_)
  ·first | exact Nat.le_refl _ | (simp [more_size]; done) | (simp [more_size]; omega)):p:=h
set_option maxHeartbeats 4000000 in
theorem spanResult_call {m:Int} (hm:m = 255 ∨ m = 65535) (cs:List Ac) (bs:List Px) (n:Nat) (hn:n ≤ 1000) (lc:cs.length = n) (lb:bs.length = n)
  (hok:∀ (i:Nat) (c:Ac) (b:Px),cs[i]? = some c → bs[i]? = some b → Ac.ok m c b) (A1 A2:Option Addr) (c1 c2:Nat) (w:World) (h1:Sl w 6 n A1 (acs cs)) (h2:Sl w 5 n A2 (pxs bs)) :
  Calls Tryz.prog 75 #[.slice A1 n c1,.slice A2 n c2,.int .u16 m] w fun e w' => ∃ v,e = .returned (.tuple #[v,.bool true]) ∧ w'.ownsRow w.heap.size 32 5 v n (pxs (resL m cs bs)) ∧ Bel w w':=by
 obtain ⟨i0,hi,hz0,hz1,hz2⟩:=info_parts info_px
 have h1':=hd_ h1
 have h2':=hd_ h2
 have HOK:=hd_ hok
 have lc':=hd_ lc
 have lb':=hd_ lb
 clear h1 h2 hok lc lb
 go_enter Tryz.func75,Tryz.ntmps75
 go_wp2_with fail
 go_loopg [8,19] n (fun gk s8 s19 wr => ∃ i:Nat,i + gk = n ∧ s19 = .int .i64 i ∧ wr.ownsRow w.heap.size 32 5 s8 i (pxs ((resL m cs bs).take i)) ∧ Bel w wr)
 case atStart => exact ⟨0,by omega,rfl,World.ownsRow_nil _ _ _ _,Bel.refl _⟩
 case round =>
  obtain ⟨i,hgk,rfl,hown,hB⟩:=hrel
  obtain ⟨wc,rfl⟩:∃ wo:World,wo = wr:=⟨_,rfl⟩
  have HOWN:=hd_ hown
  have HB:=hd_ hB
  clear hown hB
  by_cases hlt:i < n
  case neg =>
   go_wp2_with fail
   obtain rfl:i = n:=by omega
   go_ret2
   refine ⟨_,rfl,?_,HB.out⟩
   have h:=HOWN.out
   rwa [List.take_of_length_le (by unfold resL; rw [List.length_zipWith,lc'.out,lb'.out]; omega)] at h
  case pos =>
   obtain ⟨c,ec⟩:∃ c,cs[i]? = some c:=⟨cs[i]'(by have:=lc'.out; omega),List.getElem?_eq_getElem _⟩
   obtain ⟨b,eb⟩:∃ b,bs[i]? = some b:=⟨bs[i]'(by have:=lb'.out; omega),List.getElem?_eq_getElem _⟩
   have hcall:=fun w => resF_call hm (HOK.out i c b ec eb) w
   have er:(resL m cs bs)[i]? = some (resF m c b):=by unfold resL; rw [List.getElem?_zipWith,ec,eb]
   obtain ⟨g1,o1,rfl,d0,d1,d2,d3,d4,d5⟩:=(h1'.out.bel HB.out).ac ec hlt
   obtain ⟨g2,o2,rfl,f0,f1,f2,f3,f4⟩:=(h2'.out.bel HB.out).px eb hlt
   generalize resF m c b = R at *
   have MR:=hd_ @hcall
   have ER:=hd_ er
   clear hcall er ec eb
   go_upto_region 7 with fail
   go_cut [10,11] (fun s10 s11 Z => ∃ gr:Nat,Ext wc Z ∧ s10 = .pointer (some ⟨gr,0,none⟩) ∧ s11 = .bool true ∧ Z.heap[gr]? = some (.cells #[.int .u16 (R.x),.int .u16 (R.y),.int .u16 (R.z),.int .u16 (R.a),.int .u16 (R.f)] 32) ∧ wc.heap.size ≤ gr)
   case first =>
    have q0:=fun W' (h:Ext wc W') => ext_cell h d0
    have q1:=fun W' (h:Ext wc W') => ext_cell h d1
    have q2:=fun W' (h:Ext wc W') => ext_cell h d2
    have q3:=fun W' (h:Ext wc W') => ext_cell h d3
    have q4:=fun W' (h:Ext wc W') => ext_cell h d4
    have q5:=fun W' (h:Ext wc W') => ext_cell h d5
    have r0:=fun W' (h:Ext wc W') => ext_cell h f0
    have r1:=fun W' (h:Ext wc W') => ext_cell h f1
    have r2:=fun W' (h:Ext wc W') => ext_cell h f2
    have r3:=fun W' (h:Ext wc W') => ext_cell h f3
    have r4:=fun W' (h:Ext wc W') => ext_cell h f4
    have hmc:=more_cell
    have hmh:=more_heap
    have hmf:=more_frozen
    have hms:=more_setCell
    have hlt:∀ (W:World) (p:Extra) (b:Nat),b < W.heap.size → b < (more W p).heap.size:=fun W p b h => by rw [more_size]; omega
    have hlt2:∀ (W:World) (p q:Extra) (b:Nat),b < W.heap.size → b < (more (more W p) q).heap.size:=fun W p q b h => by rw [more_size,more_size]; omega
    have hmz:∀ (X:World) (o:Obj) (q:Extra),(more (X.alloc o) q).heap.size = (more X q).heap.size + 1:=fun X o q => by rw [more_size,more_size]; simp; omega
    have hmz2:∀ (X:World) (o:Obj) (p q:Extra),(more (more (X.alloc o).drew p) q).heap.size = (more (more X.drew p) q).heap.size + 1:=fun X o p q => by simp [more_size]; omega
    have hmz3:∀ (X:World) (o:Obj) (q:Extra),(more (X.alloc o).drew q).heap.size = (more X.drew q).heap.size + 1:=fun X o q => by simp [more_size]; omega
    have hmz4:∀ (X:World) (o:Obj) (p q:Extra),(more (more (X.alloc o) p) q).heap.size = (more (more X p) q).heap.size + 1:=fun X o p q => by simp [more_size]; omega
    have hl3:∀ (W:World) (p:Extra),W.heap.size < (more W.drew p).heap.size + 1:=fun W p => by simp [more_size]; omega
    have hl4:∀ (W:World) (p q:Extra),W.heap.size < (more (more W.drew p) q).heap.size + 1:=fun W p q => by simp [more_size]; omega
    have hl5:∀ (W:World) (p q:Extra),W.heap.size < (more (more W p) q).heap.size + 1:=fun W p q => by simp [more_size]; omega
    have hl2:∀ (W:World) (p:Extra),W.heap.size < (more W p).heap.size + 1:=fun W p => by rw [more_size]; omega
    have hn1:∀ (W:World) (p:Extra),(W.heap.size = (more W p).heap.size + 1) = False:=fun W p => eq_false (by rw [more_size]; omega)
    go_region_held3 (fun w' => Ext wc w') ((repeat (first | assumption | exact Ext.refl _ | exact ext_drew _ | refine ext_drewW ?_ | refine Ext.mored ?_ _ | refine Ext.alloc ?_ _ | refine Ext.drewN ?_ _))) (first | (go_at_call 87; (with_reducible refine (MR.out _).mono ?_); rintro e w2 ⟨rfl,p,rfl⟩))
    all_goals go_wp2_with fail
    all_goals
     go_meet
     exact tlTSpan1
   case rest =>
    obtain ⟨gr,hX,rfl,rfl,e10,lr⟩:=hcut
    have hown:=own_ext HOWN.out (Bel.of_ext hX)
    have hB:=HB.out.ext hX
    clear HOWN HB hX d0 d1 d2 d3 d4 d5 f0 f1 f2 f3 f4
    obtain ⟨k0,k1,k2,k3,k4,k5⟩:=cells5_of e10
    go_wp2_with (at_builtin; refine wpList_append_own _ rfl _ _ 60 rfl w.heap.size 32 i0 (.agg #[.int .u16 0,.int .u16 0,.int .u16 0,.int .u16 0,.int .u16 0]) 5 10 Tryz.underlying60 hi hz0 hz1 hz2 rfl (by decide) _ _ _ rfl (own_ext hown (Bel.of_ext ((Ext.refl _).alloc _))) ⟨wc.heap.size,0,none⟩ 1 1 R.cs rfl rfl ?ca ?cb ?cc ?cd ?ce ?_)
    case ca => exact new_row wc R.cs _
    case cb => exact px_one R
    case cc => unfold maxLen; omega
    case cd => omega
    case ce => have:=hB.size'; simp; omega
    intro v' w1 hown' hgrow _
    have HN:=hd_ hown'
    have HG:=hd_ (hB.app (Nat.le_refl _) hown hgrow)
    clear hown' hgrow hown hB e10 k0 k1 k2 k3 k4 k5
    go_wp2_with fail
    go_roundg (gk - 1)
    case measure => omega
    case rel =>
     refine ⟨i + 1,by omega,by go_num,?_,HG.out⟩
     rw [take_snoc ER.out,pxs_snoc]
     exact HN.out
def bothF (m j k:Int) (p:Px):Px:=⟨halfI (halfI (p.x * k) m * j) m,halfI (halfI (p.y * k) m * j) m,halfI (halfI (p.z * k) m * j) m,halfI (halfI (p.a * k) m * j) m,halfI (halfI (p.f * k) m * j) m⟩
theorem both_ok {m k j:Int} {p:Px} (hm:m = 255 ∨ m = 65535) (hp:Px.ok m p) (k0:0 ≤ k) (k1:k ≤ m) (j0:0 ≤ j) (j1:j ≤ m):Px.ok m (bothF m j k p):=by
 have v:=valid_scaled _ _ _ _ _ j m (valid_scaled p.x p.y p.z p.a p.f k m hp.valid (by omega) k0 k1) (by omega) j0 j1
 obtain ⟨v0,v1,v2,v3,v4⟩:=valid_parts v
 obtain ⟨s0,s1,s2⟩:=scaled_nonneg p.x p.y p.z k m (by omega) hp.x0 hp.y0 hp.z0 k0
 obtain ⟨t0,t1,t2⟩:=scaled_nonneg _ _ _ j m (by omega) s0 s1 s2 j0
 exact ⟨t0,t1,t2,v0,v1,v2,v3,v4⟩
theorem both_call {m k j:Int} {p:Px} (hm:m = 255 ∨ m = 65535) (hp:Px.ok m p) (k0:0 ≤ k) (k1:k ≤ m) (j0:0 ≤ j) (j1:j ≤ m) (w:World) :
  Calls Tryz.prog 100 #[.agg #[.int .u16 (p.x),.int .u16 (p.y),.int .u16 (p.z),.int .u16 (p.a),.int .u16 (p.f)],.int .u16 k,.int .u16 j,.int .u16 m] w fun e w' => e = .returned (.tuple #[.agg #[.int .u16 ((bothF m j k p).x),.int .u16 ((bothF m j k p).y),.int .u16 ((bothF m j k p).z),.int .u16 ((bothF m j k p).a),.int .u16 ((bothF m j k p).f)],.bool true]) ∧ ∃ p,w' = more w p:=by
 rcases hm with rfl | rfl
 ·exact (both255 p.x p.y p.z p.a p.f k j w hp.valid hp.x0 hp.y0 hp.z0 k0 k1 j0 j1).mono fun e w' ⟨he,o1,o2,o3,o4,o5,o6,o7,o8,hw⟩ => ⟨he,⟨[o1,o2,o3,o4,o5,o6,o7,o8],0⟩,hw⟩
 ·exact (both65535 p.x p.y p.z p.a p.f k j w hp.valid hp.x0 hp.y0 hp.z0 k0 k1 j0 j1).mono fun e w' ⟨he,o1,o2,o3,o4,o5,o6,o7,o8,hw⟩ => ⟨he,⟨[o1,o2,o3,o4,o5,o6,o7,o8],0⟩,hw⟩
theorem Sl.one {W:World} {n i:Nat} {A:Option Addr} {l:List Int} {p:Int} (h:Sl W 1 n A (l.map (.int .u16))) (hi:l[i]? = some p) (hn:i < n) :
  ∃ g off,A = some ⟨g,off,none⟩ ∧ W.cell? ⟨g,off + i,none⟩ = some (.int .u16 p):=by
 obtain ⟨g,off,rfl,hc⟩:=h.2 (by omega)
 exact ⟨g,off,rfl,hc i _ (by rw [List.getElem?_map,hi]; rfl)⟩
def scL (m j:Int) (l:List Px) (ks:List Int):List Px:=List.zipWith (fun p k => bothF m j k p) l ks
theorem tlTSpan0 {p:Prop} (h:p:=by
  have MR:=hd_ @hcall
  have ER:=hd_ er
  clear hcall er ep ek
  go_upto_region 10 with fail
  go_cut [14,15] (fun s14 s15 Z => ∃ gr:Nat,Ext wc Z ∧ s14 = .pointer (some ⟨gr,0,none⟩) ∧ s15 = .bool true ∧ Z.heap[gr]? = some (.cells #[.int .u16 (R.x),.int .u16 (R.y),.int .u16 (R.z),.int .u16 (R.a),.int .u16 (R.f)] 32) ∧ wc.heap.size ≤ gr)
  case first =>
   go_wp2_with (go_at_call 100; (with_reducible refine (MR.out _).mono ?_); rintro e w2 ⟨rfl,p,rfl⟩)
   go_meet
   exact tlTSpan1
  case rest =>
   obtain ⟨gr,hX,rfl,rfl,e10,lr⟩:=hcut
   have hown:=own_ext HOWN.out (Bel.of_ext hX)
   have hB:=HB.out.ext hX
   clear HOWN HB hX d0 d1 d2 d3 d4
   obtain ⟨z0,z1,z2,z3,z4,z5⟩:=cells5_of e10
   go_wp2_with (at_builtin; refine wpList_append_own _ rfl _ _ 60 rfl w.heap.size 32 i0 (.agg #[.int .u16 0,.int .u16 0,.int .u16 0,.int .u16 0,.int .u16 0]) 5 10 Tryz.underlying60 hi hz0 hz1 hz2 rfl (by decide) _ _ _ rfl (own_ext hown (Bel.of_ext ((Ext.refl _).alloc _))) ⟨wc.heap.size,0,none⟩ 1 1 R.cs rfl rfl ?ca ?cb ?cc ?cd ?ce ?_)
   case ca => exact new_row wc R.cs _
   case cb => exact px_one R
   case cc => unfold maxLen; omega
   case cd => omega
   case ce => have:=hB.size'; simp; omega
   intro v' w1 hown' hgrow _
   have HN:=hd_ hown'
   have HG:=hd_ (hB.app (Nat.le_refl _) hown hgrow)
   clear hown' hgrow hown hB e10 z0 z1 z2 z3 z4 z5
   go_wp2_with fail
   go_roundg (gk - 1)
   case measure => omega
   case rel =>
    refine ⟨i + 1,by omega,by go_num,?_,HG.out⟩
    rw [take_snoc ER.out,pxs_snoc]
    exact HN.out):p:=h
theorem tlTSpan4 {p:Prop} (h:p:=by
  go_wp2_with fail
  obtain rfl:i = n:=by omega
  go_ret2
  refine ⟨_,rfl,?_,HB.out⟩
  have h:=HOWN.out
  rwa [List.take_of_length_le (by unfold scL; rw [List.length_zipWith,ll'.out,lk'.out]; omega)] at h):p:=h
set_option maxHeartbeats 4000000 in
theorem spanScale_none {m j:Int} (hm:m = 255 ∨ m = 65535) (j0:0 ≤ j) (j1:j ≤ m) (l:List Px) (ks:List Int) (n:Nat) (hn:n ≤ 1000) (n1:1 ≤ n) (ll:l.length = n) (lk:ks.length = n)
  (hok:∀ (i:Nat) (p:Px),l[i]? = some p → Px.ok m p) (hk:∀ (i:Nat) (k:Int),ks[i]? = some k → 0 ≤ k ∧ k ≤ m) (hr:∀ (i:Nat) (k:Int),ks[i]? = some k → k = m) (A1:Option Addr) (c1:Nat) (w:World) (h1:Sl w 5 n A1 (pxs l)) :
  Calls Tryz.prog 88 #[.slice A1 n c1,.slice none 0 0,.int .u16 j,.int .u16 m] w fun e w' => ∃ v,e = .returned (.tuple #[v,.bool true]) ∧ w'.ownsRow w.heap.size 32 5 v n (pxs (scL m j l ks)) ∧ Bel w w':=by
 obtain ⟨i0,hi,hz0,hz1,hz2⟩:=info_parts info_px
 have h1':=hd_ h1
 have HRM:=hd_ hr
 have HOK:=hd_ hok
 have HK:=hd_ hk
 have ll':=hd_ ll
 have lk':=hd_ lk
 have nz:((n:Int) == 0) = false:=beq_eq_false_iff_ne.2 (by omega)
 have nz2:((n:Int) != 0) = true:=by rw [bne,nz]; rfl
 clear h1 hok hk ll lk hr
 go_enter Tryz.func88,Tryz.ntmps88
 go_wp2_with fail
 go_loopg [10,28] n (fun gk s10 s28 wr => ∃ i:Nat,i + gk = n ∧ s28 = .int .i64 i ∧ wr.ownsRow w.heap.size 32 5 s10 i (pxs ((scL m j l ks).take i)) ∧ Bel w wr)
 case atStart => exact ⟨0,by omega,rfl,World.ownsRow_nil _ _ _ _,Bel.refl _⟩
 case round =>
  obtain ⟨i,hgk,rfl,hown,hB⟩:=hrel
  obtain ⟨wc,rfl⟩:∃ wo:World,wo = wr:=⟨_,rfl⟩
  have HOWN:=hd_ hown
  have HB:=hd_ hB
  clear hown hB
  by_cases hlt:i < n
  case neg =>
   exact tlTSpan4
  case pos =>
   obtain ⟨p,ep⟩:∃ p,l[i]? = some p:=⟨l[i]'(by have:=ll'.out; omega),List.getElem?_eq_getElem _⟩
   obtain ⟨k,ek⟩:∃ k,ks[i]? = some k:=⟨ks[i]'(by have:=lk'.out; omega),List.getElem?_eq_getElem _⟩
   obtain ⟨k0,k1⟩:=HK.out i k ek
   have hcall:=fun w => both_call hm (HOK.out i p ep) k0 k1 j0 j1 w
   have er:(scL m j l ks)[i]? = some (bothF m j k p):=by unfold scL; rw [List.getElem?_zipWith,ep,ek]
   obtain ⟨g1,o1,rfl,d0,d1,d2,d3,d4⟩:=(h1'.out.bel HB.out).px ep hlt
   obtain rfl:m = k:=(HRM.out i k ek).symm
   generalize bothF m j m p = R at *
   exact tlTSpan0
set_option maxHeartbeats 4000000 in
theorem spanScale_mask {m j:Int} (hm:m = 255 ∨ m = 65535) (j0:0 ≤ j) (j1:j ≤ m) (l:List Px) (ks:List Int) (n:Nat) (hn:n ≤ 1000) (n1:1 ≤ n) (ll:l.length = n) (lk:ks.length = n)
  (hok:∀ (i:Nat) (p:Px),l[i]? = some p → Px.ok m p) (hk:∀ (i:Nat) (k:Int),ks[i]? = some k → 0 ≤ k ∧ k ≤ m) (A1 A2:Option Addr) (c1 c2:Nat) (w:World) (h1:Sl w 5 n A1 (pxs l)) (h2:Sl w 1 n A2 (ks.map (.int .u16))) :
  Calls Tryz.prog 88 #[.slice A1 n c1,.slice A2 n c2,.int .u16 j,.int .u16 m] w fun e w' => ∃ v,e = .returned (.tuple #[v,.bool true]) ∧ w'.ownsRow w.heap.size 32 5 v n (pxs (scL m j l ks)) ∧ Bel w w':=by
 obtain ⟨i0,hi,hz0,hz1,hz2⟩:=info_parts info_px
 have h1':=hd_ h1
 have h2':=hd_ h2
 have HOK:=hd_ hok
 have HK:=hd_ hk
 have ll':=hd_ ll
 have lk':=hd_ lk
 have nz:((n:Int) == 0) = false:=beq_eq_false_iff_ne.2 (by omega)
 have nz2:((n:Int) != 0) = true:=by rw [bne,nz]; rfl
 clear h1 hok hk ll lk h2
 go_enter Tryz.func88,Tryz.ntmps88
 go_wp2_with fail
 go_loopg [10,28] n (fun gk s10 s28 wr => ∃ i:Nat,i + gk = n ∧ s28 = .int .i64 i ∧ wr.ownsRow w.heap.size 32 5 s10 i (pxs ((scL m j l ks).take i)) ∧ Bel w wr)
 case atStart => exact ⟨0,by omega,rfl,World.ownsRow_nil _ _ _ _,Bel.refl _⟩
 case round =>
  obtain ⟨i,hgk,rfl,hown,hB⟩:=hrel
  obtain ⟨wc,rfl⟩:∃ wo:World,wo = wr:=⟨_,rfl⟩
  have HOWN:=hd_ hown
  have HB:=hd_ hB
  clear hown hB
  by_cases hlt:i < n
  case neg =>
   exact tlTSpan4
  case pos =>
   obtain ⟨p,ep⟩:∃ p,l[i]? = some p:=⟨l[i]'(by have:=ll'.out; omega),List.getElem?_eq_getElem _⟩
   obtain ⟨k,ek⟩:∃ k,ks[i]? = some k:=⟨ks[i]'(by have:=lk'.out; omega),List.getElem?_eq_getElem _⟩
   obtain ⟨k0,k1⟩:=HK.out i k ek
   have hcall:=fun w => both_call hm (HOK.out i p ep) k0 k1 j0 j1 w
   have er:(scL m j l ks)[i]? = some (bothF m j k p):=by unfold scL; rw [List.getElem?_zipWith,ep,ek]
   obtain ⟨g1,o1,rfl,d0,d1,d2,d3,d4⟩:=(h1'.out.bel HB.out).px ep hlt
   obtain ⟨g2,o2,rfl,f0⟩:=(h2'.out.bel HB.out).one ek hlt
   have lg2:g2 < wc.heap.size:=World.block_lt_of_cell? wc _ f0
   have hp0:(0:Int) < n:=by omega
   have hm1:m ≤ 65535:=by omega
   generalize bothF m j k p = R at *
   exact tlTSpan0
theorem eql_px_not (p q:Px) (h:p ≠ q) (w:World):(binOp .eql 32 p.v q.v).run Tryz.prog w = .ok (.bool false) w:=by
 have k:=eql_pixel p.x p.y p.z p.a p.f q.x q.y q.z q.a q.f w
 refine k.trans ?_
 congr 2
 apply Bool.eq_false_iff.2
 intro hc
 apply h
 cases p
 cases q
 simp only [Bool.and_eq_true,beq_iff_eq] at hc
 simp only [Px.mk.injEq]
 omega
set_option maxHeartbeats 4000000 in
theorem eql_accum (x y z a o f x' y' z' a' o' f':Int) (w:World) :
  (binOp .eql 151 (.agg #[.int .u16 x,.int .u16 y,.int .u16 z,.int .u16 a,.int .u16 o,.int .u16 f]) (.agg #[.int .u16 x',.int .u16 y',.int .u16 z',.int .u16 a',.int .u16 o',.int .u16 f'])).run Tryz.prog w
   = .ok (.bool (x == x' && y == y' && z == z' && a == a' && o == o' && f == f')) w:=by
 have h1:∀ (a b:Int) (d:Nat),(Op.equalIn (d + 1) 27 (.int .u16 a) (.int .u16 b)).run Tryz.prog w = .ok (a == b) w:=fun a b d => run_equalIn_int w d 27 .u16 .u16 a b Tryz.underlying27
 have p0:∀ a b c d e f:Value,(part 30 #[a,b,c,d,e,f] 0).run Tryz.prog w = .ok (.agg #[a,b,c]) w:=fun _ _ _ _ _ _ => by kernel_rfl
 have p1:∀ a b c d e f:Int,(part 27 #[.int .u16 a,.int .u16 b,.int .u16 c,.int .u16 d,.int .u16 e,.int .u16 f] 3).run Tryz.prog w = .ok (.int .u16 d) w:=fun _ _ _ _ _ _ => by kernel_rfl
 have p2:∀ a b c d e f:Int,(part 27 #[.int .u16 a,.int .u16 b,.int .u16 c,.int .u16 d,.int .u16 e,.int .u16 f] 4).run Tryz.prog w = .ok (.int .u16 e) w:=fun _ _ _ _ _ _ => by kernel_rfl
 have p3:∀ a b c d e f:Int,(part 27 #[.int .u16 a,.int .u16 b,.int .u16 c,.int .u16 d,.int .u16 e,.int .u16 f] 5).run Tryz.prog w = .ok (.int .u16 f) w:=fun _ _ _ _ _ _ => by kernel_rfl
 have q0:∀ a b c:Int,(part 27 #[.int .u16 a,.int .u16 b,.int .u16 c] 0).run Tryz.prog w = .ok (.int .u16 a) w:=fun _ _ _ => by kernel_rfl
 have q1:∀ a b c:Int,(part 27 #[.int .u16 a,.int .u16 b,.int .u16 c] 1).run Tryz.prog w = .ok (.int .u16 b) w:=fun _ _ _ => by kernel_rfl
 have q2:∀ a b c:Int,(part 27 #[.int .u16 a,.int .u16 b,.int .u16 c] 2).run Tryz.prog w = .ok (.int .u16 c) w:=fun _ _ _ => by kernel_rfl
 obtain ⟨i,hi⟩:=Option.isSome_iff_exists.1 (show (Tryz.prog.info? 27).isSome = true by kernel_rfl)
 have hA:∀ x y z x' y' z':Int,(Op.equalIn 9999 30 (.agg #[.int .u16 x,.int .u16 y,.int .u16 z]) (.agg #[.int .u16 x',.int .u16 y',.int .u16 z'])).run Tryz.prog w = .ok (x == x' && y == y' && z == z') w:=by
  intro x y z x' y' z'
  have hc:Tryz.prog.cellsOf 27 = 1:=by kernel_rfl
  have e:=run_equalIn_array (P:=Tryz.prog) w 9998 #[.int .u16 x,.int .u16 y,.int .u16 z] #[.int .u16 x',.int .u16 y',.int .u16 z'] Tryz.underlying30 hi
  rw [hc] at e
  rw [e]
  have r3:List.range 3 = [0,1,2]:=rfl
  simp only [r3,Op.eqItems]
  by_cases e1:x = x' <;> by_cases e2:y = y' <;> by_cases e3:z = z' <;> simp [q0,q1,q2,h1 _ _ 9997,e1,e2,e3]
 rw [run_eql_struct,show (10000:Nat) = 9999 + 1 from rfl,run_equalIn_struct w 9999 151 _ _ (by kernel_rfl) (by kernel_rfl)]
 simp only [Program.fieldsOf,Tryz.underlying151,Op.eqFields]
 by_cases e1:x = x' <;> by_cases e2:y = y' <;> by_cases e3:z = z' <;> by_cases e4:a = a' <;> by_cases e5:o = o' <;> by_cases e6:f = f' <;> simp [p0,hA,p1,p2,p3,h1 _ _ 9998,e1,e2,e3,e4,e5,e6]
theorem eql_accum_same (x y z a o f:Int) (w:World):(binOp .eql 151 (.agg #[.int .u16 x,.int .u16 y,.int .u16 z,.int .u16 a,.int .u16 o,.int .u16 f]) (.agg #[.int .u16 x,.int .u16 y,.int .u16 z,.int .u16 a,.int .u16 o,.int .u16 f])).run Tryz.prog w = .ok (.bool true) w:=by
 refine (eql_accum _ _ _ _ _ _ _ _ _ _ _ _ w).trans ?_
 simp
theorem eql_ac_not (p q:Ac) (h:p ≠ q) (w:World):(binOp .eql 151 p.v q.v).run Tryz.prog w = .ok (.bool false) w:=by
 refine (eql_accum p.x p.y p.z p.a p.o p.f q.x q.y q.z q.a q.o q.f w).trans ?_
 congr 2
 apply Bool.eq_false_iff.2
 intro hc
 apply h
 cases p
 cases q
 simp only [Bool.and_eq_true,beq_iff_eq] at hc
 simp only [Ac.mk.injEq]
 omega
structure StepC (kn:Bool) (op k:Int):Prop where
 o0:1 ≤ op
 o1:op ≤ 12
 k0:1 ≤ k
 k1:k ≤ 12
 hk:kn = true → op = 4
def StepGood (kn:Bool) (op k m:Int) (p:Px) (c:Ac) (b:Px) (r:Ac):Prop :=
 Ac.ok m r b ∧ (kn = false → c.o = c.a → r.o = r.a) ∧ (k = 1 → op = 4 → c = ⟨0,0,0,0,0,0⟩ → b = ⟨0,0,0,0,0⟩ → r = ⟨p.x,p.y,p.z,p.a,p.a,p.f⟩) ∧
  ∀ w,Ruled w → Calls Tryz.prog 101 #[.bool kn,.int .i64 op,.int .i64 k,.int .u16 m,.agg #[.int .u16 (p.x),.int .u16 (p.y),.int .u16 (p.z),.int .u16 (p.a),.int .u16 (p.f)],.agg #[.int .u16 (c.x),.int .u16 (c.y),.int .u16 (c.z),.int .u16 (c.a),.int .u16 (c.o),.int .u16 (c.f)],.agg #[.int .u16 (b.x),.int .u16 (b.y),.int .u16 (b.z),.int .u16 (b.a),.int .u16 (b.f)]] w fun e w' => e = .returned (.tuple #[.agg #[.int .u16 (r.x),.int .u16 (r.y),.int .u16 (r.z),.int .u16 (r.a),.int .u16 (r.o),.int .u16 (r.f)],.bool true]) ∧ ∃ p,w' = more w p
noncomputable def stepF (kn:Bool) (op k m:Int) (p:Px) (c:Ac) (b:Px):Ac:=@Classical.epsilon _ ⟨⟨0,0,0,0,0,0⟩⟩ (StepGood kn op k m p c b)
theorem stepF_good {kn:Bool} {op k m:Int} {p:Px} {c:Ac} {b:Px} (hm:m = 255 ∨ m = 65535) (h:StepC kn op k) (hp:Px.ok m p) (hc:Ac.ok m c b) (hi:op = 4 ∨ c.o = c.a):StepGood kn op k m p c b (stepF kn op k m p c b):=by
 refine @Classical.epsilon_spec _ (StepGood kn op k m p c b) ?_
 obtain ⟨h1,h2⟩:=hc
 obtain ⟨X,Y,Zq,A,O,Fs,g1,g2,g3,g4⟩:=step_ex hm hp h1 h.o0 h.o1 h.k0 h.k1 h.hk hi
 refine ⟨⟨X,Y,Zq,A,O,Fs⟩,⟨g1,h2⟩,g2,fun e1 e2 e3 e4 => ?_,fun w hR => ?_⟩
 ·subst e3 e4
  obtain ⟨i1,i2,i3,i4,i5,i6⟩:=g3 e1 e2 rfl rfl rfl rfl rfl rfl rfl rfl rfl rfl
  rw [i1,i2,i3,i4,i5,i6]
 ·rcases b with ⟨bx,bY,bz,ba,bf⟩
  obtain rfl:bf = ba:=h2
  exact g4 w hR
noncomputable def stepL (kn:Bool) (op k m:Int) (ps:List Px) (cs:List Ac) (bs:List Px):List Ac:=List.zipWith (fun p (cb:Ac × Px) => stepF kn op k m p cb.1 cb.2) ps (List.zip cs bs)
theorem stepL_at {kn:Bool} {op k m:Int} {ps:List Px} {cs:List Ac} {bs:List Px} {i:Nat} {p:Px} {c:Ac} {b:Px} (ep:ps[i]? = some p) (ec:cs[i]? = some c) (eb:bs[i]? = some b):(stepL kn op k m ps cs bs)[i]? = some (stepF kn op k m p c b):=by
 have e:(List.zip cs bs)[i]? = some (c,b):=by rw [List.getElem?_zip_eq_some]; exact ⟨ec,eb⟩
 unfold stepL
 rw [List.getElem?_zipWith,ep,e]
theorem stepL_len (kn:Bool) (op k m:Int) {ps:List Px} {cs:List Ac} {bs:List Px} {n:Nat} (lp:ps.length = n) (lc:cs.length = n) (lb:bs.length = n):(stepL kn op k m ps cs bs).length = n:=by
 unfold stepL
 rw [List.length_zipWith,List.length_zip,lp,lc,lb]
 omega
theorem idx_ac {v:Value} {g off i j c:Nat} (h:v = .slice (some ⟨g,off,none⟩) i c) (hj:j < i) (W:World) :
  Sem.run Tryz.prog (Instr.indexAt 129 v (.int .i64 (j:Int))) W = .ok (.pointer (some ⟨g,off + j * 6,none⟩)) W:=by
 subst h
 go_simp
theorem tlTSpan2 {p:Prop} (h:p:=by
  refine region_more (by kernel_rfl) (by kernel_rfl) ?_
  repeat (go_big_quiet_step (fail))
  refine wpQuiet_nil ?_
  rintro w1 ⟨q,rfl⟩
  go_wp2_with fail
  go_meet
  exact ⟨⟨q,rfl⟩,rfl⟩):p:=h
theorem tlTSpan3 {p:Prop} (h:p:=by
  go_wp2_with fail
  go_roundg (gk - 1)
  case measure => omega
  case rel =>
   refine ⟨i + 1,by omega,by go_num,?_,HG.out⟩
   rw [take_snoc ER.out,acs_snoc]
   exact HN.out):p:=h
set_option maxHeartbeats 8000000 in
set_option maxRecDepth 100000 in
theorem spanStep_call {kn:Bool} {op k m:Int} (hm:m = 255 ∨ m = 65535) (hC:StepC kn op k) (ps:List Px) (cs:List Ac) (bs:List Px) (n:Nat) (hn:n ≤ 1000) (lp:ps.length = n) (lc:cs.length = n) (lb:bs.length = n)
  (hok:∀ (i:Nat) (p:Px) (c:Ac) (b:Px),ps[i]? = some p → cs[i]? = some c → bs[i]? = some b → Px.ok m p ∧ Ac.ok m c b ∧ (op = 4 ∨ c.o = c.a)) (A1 A2 A3:Option Addr) (c1 c2 c3:Nat) (w:World) (hR:Ruled w)
  (h1:Sl w 5 n A1 (pxs ps)) (h2:Sl w 6 n A2 (acs cs)) (h3:Sl w 5 n A3 (pxs bs)) :
  Calls Tryz.prog 90 #[.bool kn,.int .i64 op,.int .i64 k,.int .u16 m,.slice A1 n c1,.slice A2 n c2,.slice A3 n c3] w fun e w' => ∃ v,e = .returned (.tuple #[v,.bool true]) ∧ w'.ownsRow w.heap.size 151 6 v n (acs (stepL kn op k m ps cs bs)) ∧ Bel w w':=by
 obtain ⟨i0,hi,hz0,hz1,hz2⟩:=info_parts info_ac
 have ll:=stepL_len kn op k m lp lc lb
 have hgood:∀ (i:Nat) (p:Px) (c:Ac) (b:Px),ps[i]? = some p → cs[i]? = some c → bs[i]? = some b → StepGood kn op k m p c b (stepF kn op k m p c b):=fun i p c b e1 e2 e3 => by
  obtain ⟨g1,g2,g3⟩:=hok i p c b e1 e2 e3
  exact stepF_good hm hC g1 g2 g3
 have hat:∀ (i:Nat) (p:Px) (c:Ac) (b:Px),ps[i]? = some p → cs[i]? = some c → bs[i]? = some b → (stepL kn op k m ps cs bs)[i]? = some (stepF kn op k m p c b):=fun i p c b e1 e2 e3 => stepL_at e1 e2 e3
 generalize stepL kn op k m ps cs bs = L at *
 have HG:=hd_ @hgood
 have HAT:=hd_ @hat
 have LL:=hd_ ll
 have h1':=hd_ h1
 have h2':=hd_ h2
 have h3':=hd_ h3
 have lp':=hd_ lp
 have lc':=hd_ lc
 have lb':=hd_ lb
 have HR:=hd_ hR
 clear h1 h2 h3 hok lp lc lb hR hgood hat ll hC hm
 go_enter Tryz.func90,Tryz.ntmps90
 go_wp2_with fail
 go_loopg [16,34] n (fun gk s16 s34 wr => ∃ i:Nat,i + gk = n ∧ s34 = .int .i64 i ∧ wr.ownsRow w.heap.size 151 6 s16 i (acs (L.take i)) ∧ Bel w wr)
 case atStart => exact ⟨0,by omega,rfl,World.ownsRow_nil _ _ _ _,Bel.refl _⟩
 case round =>
  obtain ⟨i,hgk,rfl,hown,hB⟩:=hrel
  obtain ⟨wc,rfl⟩:∃ wo:World,wo = wr:=⟨_,rfl⟩
  have HOWN:=hd_ hown
  have HB:=hd_ hB
  clear hown hB
  by_cases hlt:i < n
  case neg =>
   go_wp2_with fail
   obtain rfl:i = n:=by omega
   go_ret2
   refine ⟨_,rfl,?_,HB.out⟩
   have h:=HOWN.out
   rwa [List.take_of_length_le (by rw [LL.out]; omega)] at h
  case pos =>
   obtain ⟨p,ep⟩:∃ p,ps[i]? = some p:=⟨ps[i]'(by have:=lp'.out; omega),List.getElem?_eq_getElem _⟩
   obtain ⟨c,ec⟩:∃ c,cs[i]? = some c:=⟨cs[i]'(by have:=lc'.out; omega),List.getElem?_eq_getElem _⟩
   obtain ⟨b,eb⟩:∃ b,bs[i]? = some b:=⟨bs[i]'(by have:=lb'.out; omega),List.getElem?_eq_getElem _⟩
   have hcall:=(HG.out i p c b ep ec eb).2.2.2
   have er:=HAT.out i p c b ep ec eb
   obtain ⟨g1,o1,rfl,d0,d1,d2,d3,d4⟩:=(h1'.out.bel HB.out).px ep hlt
   obtain ⟨g2,o2,rfl,f0,f1,f2,f3,f4,f5⟩:=(h2'.out.bel HB.out).ac ec hlt
   obtain ⟨g3,o3,rfl,e0,e1,e2,e3,e4⟩:=(h3'.out.bel HB.out).px eb hlt
   by_cases hsame:∃ j:Nat,i = j + 1 ∧ ps[j]? = some p ∧ cs[j]? = some c ∧ bs[j]? = some b
   case pos =>
    obtain ⟨j,hj,ep',ec',eb'⟩:=hsame
    have hjn:j < n:=by omega
    have erj:=HAT.out j p c b ep' ec' eb'
    obtain ⟨g1',o1',hg1,d0',d1',d2',d3',d4'⟩:=(h1'.out.bel HB.out).px ep' hjn
    obtain ⟨g2',o2',hg2,f0',f1',f2',f3',f4',f5'⟩:=(h2'.out.bel HB.out).ac ec' hjn
    obtain ⟨g3',o3',hg3,e0',e1',e2',e3',e4'⟩:=(h3'.out.bel HB.out).px eb' hjn
    cases hg1
    cases hg2
    cases hg3
    generalize stepF kn op k m p c b = R at *
    have ER:=hd_ er
    have ERJ:=hd_ erj
    have hwj:IntKind.i64.wrap ((i:Int) - 1) = (j:Int):=by subst hj; rw [wrap_i64 _ (by omega) (by omega)]; omega
    have hip:(0:Int) < (i:Int):=by omega
    have hip0:0 < i:=by omega
    have HJ:=hd_ hj
    clear hcall er erj ep ec eb ep' ec' eb' hj
    have hep:=fun w => eql_pixel_same p.x p.y p.z p.a p.f w
    have heb:=fun w => eql_pixel_same b.x b.y b.z b.a b.f w
    have hec:=fun w => eql_accum_same c.x c.y c.z c.a c.o c.f w
    go_upto_region 7 with fail
    go_cut [74] (fun s74 Z => Ext wc Z ∧ s74 = .bool true)
    case first =>
     have hmc:=more_cell_some
     exact tlTSpan2
    case rest =>
     obtain ⟨hX,rfl⟩:=hcut
     have hown:=own_ext HOWN.out (Bel.of_ext hX)
     have hB:=HB.out.ext hX
     clear HOWN HB hX d0 d1 d2 d3 d4 f0 f1 f2 f3 f4 f5 e0 e1 e2 e3 e4 d0' d1' d2' d3' d4' f0' f1' f2' f3' f4' f5' e0' e1' e2' e3' e4' hep heb hec
     obtain ⟨A,cc,hv16,hS⟩:=own_sl hown
     obtain ⟨g,off,rfl,k0,k1,k2,k3,k4,k5⟩:=hS.ac (i:=j) (p:=R) (by rw [List.getElem?_take,if_pos (by have:=HJ.out; omega)]; exact ERJ.out) (by have:=HJ.out; omega)
     have hji:j < i:=by have:=HJ.out; omega
     have hS':=hd_ hS
     have hidx:=idx_ac hv16 hji
     have HV:=hd_ hv16
     clear hS hv16
     go_wp2_with (at_builtin; refine wpList_append_own _ rfl _ _ 129 rfl w.heap.size 151 i0 (.agg #[.int .u16 0,.int .u16 0,.int .u16 0,.int .u16 0,.int .u16 0,.int .u16 0]) 6 12 Tryz.underlying129 hi hz0 hz1 hz2 rfl (by decide) _ _ _ rfl (own_ext hown (Bel.of_ext ((Ext.refl _).alloc _))) ⟨wc.heap.size,0,none⟩ 1 1 R.cs rfl rfl ?ca ?cb ?cc ?cd ?ce ?_)
     case ca => exact new_row wc R.cs _
     case cb => exact ac_one R
     case cc => unfold maxLen; omega
     case cd => omega
     case ce => have:=hB.size'; simp; omega
     intro v' w1 hown' hgrow _
     have HN:=hd_ hown'
     have HG:=hd_ (hB.app (Nat.le_refl _) hown hgrow)
     clear hown' hgrow hown hB k0 k1 k2 k3 k4 k5
     exact tlTSpan3
   case neg =>
    generalize stepF kn op k m p c b = R at *
    have ER:=hd_ er
    have MR:=hd_ @hcall
    have HS:=hd_ hsame
    have EP:=hd_ ep
    have EC:=hd_ ec
    have EB:=hd_ eb
    clear hcall er hsame ep ec eb
    go_upto_region 7 with fail
    go_cut [74] (fun s74 Z => Ext wc Z ∧ s74 = .bool false)
    case first =>
     have hmc:=more_cell_some
     rcases Nat.eq_zero_or_pos i with hi0 | hip0
     ·subst hi0
      exact tlTSpan2
     ·obtain ⟨j,hj⟩:∃ j,i = j + 1:=⟨i - 1,by omega⟩
      have hjn:j < n:=by omega
      obtain ⟨p',ep'⟩:∃ p,ps[j]? = some p:=⟨ps[j]'(by have:=lp'.out; omega),List.getElem?_eq_getElem _⟩
      obtain ⟨c',ec'⟩:∃ c,cs[j]? = some c:=⟨cs[j]'(by have:=lc'.out; omega),List.getElem?_eq_getElem _⟩
      obtain ⟨b',eb'⟩:∃ b,bs[j]? = some b:=⟨bs[j]'(by have:=lb'.out; omega),List.getElem?_eq_getElem _⟩
      have hno:¬ (p' = p ∧ c' = c ∧ b' = b):=fun ⟨x1,x2,x3⟩ => HS.out ⟨j,hj,x1 ▸ ep',x2 ▸ ec',x3 ▸ eb'⟩
      obtain ⟨g1',o1',hg1,d0',d1',d2',d3',d4'⟩:=(h1'.out.bel HB.out).px ep' hjn
      obtain ⟨g2',o2',hg2,f0',f1',f2',f3',f4',f5'⟩:=(h2'.out.bel HB.out).ac ec' hjn
      obtain ⟨g3',o3',hg3,e0',e1',e2',e3',e4'⟩:=(h3'.out.bel HB.out).px eb' hjn
      cases hg1
      cases hg2
      cases hg3
      have hwj:IntKind.i64.wrap ((i:Int) - 1) = (j:Int):=by subst hj; rw [wrap_i64 _ (by omega) (by omega)]; omega
      have hip:(0:Int) < (i:Int):=by omega
      clear hj ep' ec' eb'
      by_cases x1:p = p'
      ·subst x1
       have hep:=fun w => eql_pixel_same p.x p.y p.z p.a p.f w
       by_cases x2:c = c'
       ·subst x2
        have hec:=fun w => eql_accum_same c.x c.y c.z c.a c.o c.f w
        have heb:=fun w => eql_px_not b b' (fun x3 => hno ⟨rfl,rfl,x3.symm⟩) w
        dsimp only [Px.v] at heb
        clear hno
        exact tlTSpan2
       ·have hec:=fun w => eql_ac_not c c' x2 w
        dsimp only [Ac.v] at hec
        clear hno x2
        exact tlTSpan2
      ·have hep:=fun w => eql_px_not p p' x1 w
       dsimp only [Px.v] at hep
       clear hno x1
       exact tlTSpan2
    case rest =>
     obtain ⟨hX,rfl⟩:=hcut
     have hown:=own_ext HOWN.out (Bel.of_ext hX)
     have hB:=HB.out.ext hX
     replace d0:=ext_cell hX d0
     replace d1:=ext_cell hX d1
     replace d2:=ext_cell hX d2
     replace d3:=ext_cell hX d3
     replace d4:=ext_cell hX d4
     replace f0:=ext_cell hX f0
     replace f1:=ext_cell hX f1
     replace f2:=ext_cell hX f2
     replace f3:=ext_cell hX f3
     replace f4:=ext_cell hX f4
     replace f5:=ext_cell hX f5
     replace e0:=ext_cell hX e0
     replace e1:=ext_cell hX e1
     replace e2:=ext_cell hX e2
     replace e3:=ext_cell hX e3
     replace e4:=ext_cell hX e4
     clear HOWN HB hX
     have HOWN:=hd_ hown
     have HB:=hd_ hB
     have HRc:=hd_ (ruled_bel HR.out hB)
     clear hown hB
     go_upto_region 9 with fail
     go_cut [18,19] (fun s18 s19 Z => ∃ gr:Nat,Ext wc Z ∧ s18 = .pointer (some ⟨gr,0,none⟩) ∧ s19 = .bool true ∧ Z.heap[gr]? = some (.cells #[.int .u16 (R.x),.int .u16 (R.y),.int .u16 (R.z),.int .u16 (R.a),.int .u16 (R.o),.int .u16 (R.f)] 151) ∧ wc.heap.size ≤ gr)
     case first =>
      have q0:=fun W' (h:Ext wc W') => ext_cell h d0
      have q1:=fun W' (h:Ext wc W') => ext_cell h d1
      have q2:=fun W' (h:Ext wc W') => ext_cell h d2
      have q3:=fun W' (h:Ext wc W') => ext_cell h d3
      have q4:=fun W' (h:Ext wc W') => ext_cell h d4
      have q5:=fun W' (h:Ext wc W') => ext_cell h f0
      have q6:=fun W' (h:Ext wc W') => ext_cell h f1
      have q7:=fun W' (h:Ext wc W') => ext_cell h f2
      have q8:=fun W' (h:Ext wc W') => ext_cell h f3
      have q9:=fun W' (h:Ext wc W') => ext_cell h f4
      have q10:=fun W' (h:Ext wc W') => ext_cell h f5
      have q11:=fun W' (h:Ext wc W') => ext_cell h e0
      have q12:=fun W' (h:Ext wc W') => ext_cell h e1
      have q13:=fun W' (h:Ext wc W') => ext_cell h e2
      have q14:=fun W' (h:Ext wc W') => ext_cell h e3
      have q15:=fun W' (h:Ext wc W') => ext_cell h e4
      have hmc:=more_cell
      have hmh:=more_heap
      have hmf:=more_frozen
      have hms:=more_setCell
      have hlt:∀ (W:World) (p:Extra) (b:Nat),b < W.heap.size → b < (more W p).heap.size:=fun W p b h => by rw [more_size]; omega
      have hlt2:∀ (W:World) (p q:Extra) (b:Nat),b < W.heap.size → b < (more (more W p) q).heap.size:=fun W p q b h => by rw [more_size,more_size]; omega
      have hmz:∀ (X:World) (o:Obj) (q:Extra),(more (X.alloc o) q).heap.size = (more X q).heap.size + 1:=fun X o q => by rw [more_size,more_size]; simp; omega
      have hmz2:∀ (X:World) (o:Obj) (p q:Extra),(more (more (X.alloc o).drew p) q).heap.size = (more (more X.drew p) q).heap.size + 1:=fun X o p q => by simp [more_size]; omega
      have hmz3:∀ (X:World) (o:Obj) (q:Extra),(more (X.alloc o).drew q).heap.size = (more X.drew q).heap.size + 1:=fun X o q => by simp [more_size]; omega
      have hmz4:∀ (X:World) (o:Obj) (p q:Extra),(more (more (X.alloc o) p) q).heap.size = (more (more X p) q).heap.size + 1:=fun X o p q => by simp [more_size]; omega
      have hl3:∀ (W:World) (p:Extra),W.heap.size < (more W.drew p).heap.size + 1:=fun W p => by simp [more_size]; omega
      have hl4:∀ (W:World) (p q:Extra),W.heap.size < (more (more W.drew p) q).heap.size + 1:=fun W p q => by simp [more_size]; omega
      have hl5:∀ (W:World) (p q:Extra),W.heap.size < (more (more W p) q).heap.size + 1:=fun W p q => by simp [more_size]; omega
      have hl2:∀ (W:World) (p:Extra),W.heap.size < (more W p).heap.size + 1:=fun W p => by rw [more_size]; omega
      have hn1:∀ (W:World) (p:Extra),(W.heap.size = (more W p).heap.size + 1) = False:=fun W p => eq_false (by rw [more_size]; omega)
      go_region_held3 (fun w' => Ext wc w') ((repeat (first | assumption | exact Ext.refl _ | exact ext_drew _ | refine ext_drewW ?_ | refine Ext.mored ?_ _ | refine Ext.alloc ?_ _ | refine Ext.drewN ?_ _))) (first | (go_at_call 101; (with_reducible refine (MR.out _ ?hrr).mono ?_); (case hrr => exact ruled_bel HRc.out (Bel.of_ext (by assumption))); rintro e w2 ⟨rfl,p,rfl⟩))
      all_goals go_wp2_with fail
      all_goals
       go_meet
       exact tlTSpan1
     case rest =>
      obtain ⟨gr,hX,rfl,rfl,e10,lr⟩:=hcut
      have hown:=own_ext HOWN.out (Bel.of_ext hX)
      have hB:=HB.out.ext hX
      clear HOWN HB hX HRc d0 d1 d2 d3 d4 f0 f1 f2 f3 f4 f5 e0 e1 e2 e3 e4
      obtain ⟨k0,k1,k2,k3,k4,k5,k6⟩:=cells6_of e10
      go_wp2_with (at_builtin; refine wpList_append_own _ rfl _ _ 129 rfl w.heap.size 151 i0 (.agg #[.int .u16 0,.int .u16 0,.int .u16 0,.int .u16 0,.int .u16 0,.int .u16 0]) 6 12 Tryz.underlying129 hi hz0 hz1 hz2 rfl (by decide) _ _ _ rfl (own_ext hown (Bel.of_ext ((Ext.refl _).alloc _))) ⟨wc.heap.size,0,none⟩ 1 1 R.cs rfl rfl ?ca ?cb ?cc ?cd ?ce ?_)
      case ca => exact new_row wc R.cs _
      case cb => exact ac_one R
      case cc => unfold maxLen; omega
      case cd => omega
      case ce => have:=hB.size'; simp; omega
      intro v' w1 hown' hgrow _
      have HN:=hd_ hown'
      have HG:=hd_ (hB.app (Nat.le_refl _) hown hgrow)
      clear hown' hgrow hown hB e10 k0 k1 k2 k3 k4 k5 k6
      exact tlTSpan3
end Go.Proofs.YtepfoelgegljbaaGreatDoor
