/- Part A36. -/
import Derived.Test.YtepfoelgegljbaaGreatDoorA32
import Derived.Test.YtepfoelgegljbaaGreatDoorA35
namespace Go.Proofs.YtepfoelgegljbaaGreatDoor
set_option maxRecDepth 100000
open Go.RowKit
set_option linter.unusedVariables false
set_option linter.unusedSimpArgs false
theorem results_row1 {P:Program} {fn:Func} {p:Tmp} {ty:TypeId} (h:fn.results = #[.cell p ty]) (tmps:Array Value) (w:World) (g:Nat) (t:TypeId) (cs:Array Value) (fr:Nat × Nat) (d:TypeDesc)
  (hp:tmps.getD p undef = .pointer (some ⟨g,0,none⟩)) (hg:w.heap[g]? = some (.cells cs t fr))
  (hu:P.underlying ty = some d) (hd:(match d with | .struct _ | .array _ _ => true | _ => false) = true) (hi:(P.info? ty).map (·.size) = some cs.size) :
  (results fn tmps).run P w = .ok (.agg cs) w:=results_cell_row h tmps w g t cs fr d hp hg hu hd hi
set_option maxHeartbeats 4000000 in
theorem wsolid_call (iw ih:Int) (p:Px) (w:World):Calls Tryz.prog 26 #[.int .i64 iw,.int .i64 ih,p.v] w fun e w' => e = .returned (solidF iw ih p).v ∧ Bel w w':=by
 go_enter Tryz.func26,Tryz.ntmps26
 go_upto_region 1 with fail
 refine at_world (fun V => Bel w V ∧ V.heap[w.heap.size]? = some (.cells #[.int .u16 p.x,.int .u16 p.y,.int .u16 p.z,.int .u16 p.a,.int .u16 p.f] 32) ∧ V.heap[w.heap.size + 1]? = some (.cells #[.int .i64 0,.int .i64 0,.bool false,.int .u16 0,.int .u16 0,.int .u16 0,.int .u16 0,.int .u16 0,.int .i64 0,.int .i64 0,.int .i64 0,.slice none 0 0,.int .i64 0,.int .i64 0,.int .i64 0,.slice none 0 0,.int .i64 0,.int .i64 0,.int .i64 0,.slice none 0 0,.int .i64 0,.int .i64 0,.int .i64 0,.slice none 0 0,.int .i64 0,.int .i64 0,.int .i64 0,.slice none 0 0] 46)) ⟨((Bel.refl w).al _).al _,at_old (at_new (by first | rfl | simp)),at_new (by first | rfl | simp)⟩ ?_
 rintro V ⟨hX,eP,eR⟩
 have Ps:=lt_of_heap eP
 have Rs:=lt_of_heap eR
 have P_0:=cq0 eP rfl
 have P_1:=cq1 eP rfl
 have P_2:=cq2 eP rfl
 have P_3:=cq3 eP rfl
 have P_4:=cq4 eP rfl
 have fP:=frozA eP
 have fR:=frozA eR
 go_wp2_with (first | ((with_reducible show wpList _ _ _ (⟨none,.store _ _ _,_,_,_,_⟩ :: _) _ _); refine wpList_st (n:=0) (g:=w.heap.size + 1) (cells:=(solidF iw ih p).cs) rfl rfl rfl rfl eR rfl (by kernel_rfl) (im_one _) ?_; intro W6 eR6 hU6; have hX6:=hU6.bel hX (Nat.le_succ _)) | fail)
 refine bodyPost_ret (v:=(solidF iw ih p).v) (results_row1 (fn:=Tryz.f26) rfl _ _ (w.heap.size + 1) 46 (solidF iw ih p).cs.toArray (0,0) _ rfl eR6 Tryz.underlying46 rfl (by kernel_rfl)) rfl ⟨rfl,hX6⟩
structure PicD where
 w:Int
 h:Int
 so:Int
 mood:Int
 A:Option Addr
 n:Nat
 c:Nat
 l:List Q5
abbrev PicD.cs (d:PicD):List Value:=[.int .i64 d.w,.int .i64 d.h,.int .i64 d.so,.int .i64 d.mood,.slice d.A d.n d.c]
abbrev PicD.v (d:PicD):Value:=.agg #[.int .i64 d.w,.int .i64 d.h,.int .i64 d.so,.int .i64 d.mood,.slice d.A d.n d.c]
structure PicD.In (W:World) (d:PicD):Prop where
 rw:inR d.w
 sl:Sl W 5 d.n d.A (q5s d.l)
 ll:d.l.length = d.n
 ok:∀ q ∈ d.l,q.ok
theorem PicD.In.bel {W W':World} {d:PicD} (h:d.In W) (hb:Bel W W'):d.In W':=⟨h.rw,h.sl.bel hb,h.ll,h.ok⟩
structure PlR (W:World) (base:Nat) (p:Pln):Prop where
 own:W.ownsRow base 27 1 (.slice p.A p.n p.c) p.n (smp p.xs)
 le:p.n ≤ 1000000
structure ImgG (W:World) (base:Nat) (mx:Int) (m:Img):Prop where
 own:∀ i,i < 5 → PlR W base (m.pl i)
 w0:1 ≤ m.w
 w1:m.w ≤ 5
 h0:1 ≤ m.h
 h1:m.h ≤ 5
 ok:validI m mx = 0
 px:∀ X Y,Px.ok mx (atF m X Y)
theorem PlR.In {W:World} {base:Nat} {p:Pln} (h:PlR W base p):p.In W:=⟨h.le,own_sl' h.own⟩
theorem ImgG.mem {W:World} {base:Nat} {mx:Int} {m:Img} (h:ImgG W base mx m):m.In W:=⟨(h.own 0 (by decide)).In,(h.own 1 (by decide)).In,(h.own 2 (by decide)).In,(h.own 3 (by decide)).In,(h.own 4 (by decide)).In⟩
theorem ImgG.bel {W W':World} {base:Nat} {mx:Int} {m:Img} (h:ImgG W base mx m) (hb:Bel W W'):ImgG W' base mx m:=⟨fun i hi => ⟨own_ext (h.own i hi).own hb,(h.own i hi).le⟩,h.w0,h.w1,h.h0,h.h1,h.ok,h.px⟩
theorem ImgG.lower {W:World} {b base:Nat} {mx:Int} {m:Img} (h:ImgG W base mx m) (hb:b ≤ base):ImgG W b mx m:=⟨fun i hi => ⟨own_base (h.own i hi).own hb,(h.own i hi).le⟩,h.w0,h.w1,h.h0,h.h1,h.ok,h.px⟩
theorem ImgG.upd {W W':World} {base g:Nat} {mx:Int} {m:Img} {cs:Array Value} {t:TypeId} (h:ImgG W base mx m) (hu:Upd g W W') (e:W.heap[g]? = some (.cells cs t)) (ht:27 ≠ t):ImgG W' base mx m:=⟨fun i hi => ⟨own_upd (h.own i hi).own hu (own_ne_heap (h.own i hi).own e ht),(h.own i hi).le⟩,h.w0,h.w1,h.h0,h.h1,h.ok,h.px⟩
theorem ImgG.grown {W W':World} {base b2 k2 n2:Nat} {mx:Int} {m:Img} {t:TypeId} {v:Value} {xs:List Value} (h:ImgG W base mx m) (h2:W.ownsRow b2 t k2 v n2 xs) (ht:t ≠ 27) (hg:W.grownBy W' v.ownBlock):ImgG W' base mx m:=⟨fun i hi => ⟨own_grown (h.own i hi).own h2 ht hg,(h.own i hi).le⟩,h.w0,h.w1,h.h0,h.h1,h.ok,h.px⟩
theorem ImgG.sm {W:World} {base:Nat} {mx:Int} {m:Img} (h:ImgG W base mx m):m.sm:=by
 have:=h.w0; have:=h.w1; have:=h.h0; have:=h.h1
 unfold Img.sm
 omega
theorem PlOf.R {W:World} {base:Nat} {w h:Int} {l:List Px} {n i:Nat} {p:Pln} (H:PlOf W base w h l n i p) (hn:n ≤ 1000000):PlR W base p:=by
 obtain ⟨h1,h2,h3,h4,h5,h6,h7⟩:=H
 refine ⟨?_,by rw [h4]; exact hn⟩
 rw [h4,h5,h6]
 exact h7
theorem solid_R (W:World) (base:Nat) (w h:Int) (p:Px) (i:Nat) (hi:i < 5):PlR W base ((solidF w h p).pl i):=by
 have h0:PlR W base zPl:=⟨World.ownsRow_nil _ _ _ _,by decide⟩
 have hk:i = 0 ∨ i = 1 ∨ i = 2 ∨ i = 3 ∨ i = 4:=by omega
 rcases hk with rfl | rfl | rfl | rfl | rfl <;> exact h0
theorem tdiv_R {n:Int} (h:inR n) (k:Int) (hk:k = 2 ∨ k = 3 ∨ k = 4 ∨ k = 5):IntKind.i64.wrap (n.tdiv k) = n.tdiv k ∧ inR (n.tdiv k):=by
 have hb:inR (n.tdiv k):=by
  obtain ⟨h0,h1⟩:=h
  rcases Int.le_total 0 n with hn | hn
  ·rw [Int.tdiv_eq_ediv_of_nonneg hn]
   unfold inR
   rcases hk with rfl | rfl | rfl | rfl <;> omega
  ·have e:n.tdiv k = -(-n / k):=by rw [← Int.tdiv_eq_ediv_of_nonneg (show 0 ≤ -n by omega),Int.neg_tdiv,Int.neg_neg]
   rw [e]
   unfold inR
   rcases hk with rfl | rfl | rfl | rfl <;> omega
 exact ⟨wrap_i64 _ hb.1 hb.2,hb⟩
theorem tlWImg0 {p:Prop} (h:p:=by
  clear Ps P_0 P_1 P_2 P_3 P_4 fP Cs C_0 C_1 C_2 C_3 fC Rs fR hX eP eC eR
  have HE2:=hd_ (And.intro (HE.out.1.trans hbZ) (And.intro (hbZ.heap HE.out.2.1) (hbZ.heap HE.out.2.2.2)))
  obtain ⟨n,hn⟩:∃ n,n = a * b:=⟨_,rfl⟩
  have hm:(a:Int) * (b:Int) = (n:Int):=by rw [hn]; push_cast; rfl
  have n25:n ≤ 25:=by rw [hn]; exact Nat.mul_le_mul a5 b5
  have n1:1 ≤ n:=by rw [hn]; exact Nat.mul_le_mul a1 b1'
  have hwn:IntKind.i64.wrap ((a:Int) * (b:Int)) = (n:Int):=by rw [hm]; exact wrap_i64 _ (by omega) (by omega)
  have hX:=HE2.out.1
  have eP:=HE2.out.2.1
  have eR:=HE2.out.2.2
  clear HE hbZ ht hM3 w1' w2' w3' w4' e1 e2 e3 e4 hn
  have Ps:=lt_of_heap eP
  have Rs:=lt_of_heap eR
  have P_2:=cq2 eP rfl
  have P_3:=cq3 eP rfl
  have P_4:=cq4 eP rfl
  have fP:=frozA eP
  have fR:=frozA eR
  go_upto_region 5 with (first | (go_at_call 17; (with_reducible refine (HGP.out n (by omega) _ hX).mono ?_); rintro e w1 ⟨pv,lp,rfl,hlp,hokp,hpv,hb⟩; obtain ⟨Ap,cp,rfl,-⟩:=own_sl hpv; replace hX:=hX.trans hb; replace eP:=hb.heap eP; replace eR:=hb.heap eR; clear Ps P_2 P_3 P_4 fP Rs fR; have Ps:=lt_of_heap eP; have Rs:=lt_of_heap eR; have P_2:=cq2 eP rfl; have P_3:=cq3 eP rfl; have P_4:=cq4 eP rfl; have fP:=frozA eP; have fR:=frozA eR; clear hb) | fail)
  have hpx:=own_sl' hpv
  obtain ⟨gl,cl,hgl,-,-,-⟩:=own_at hpv n1 (by decide)
  cases hgl
  obtain ⟨p0,hp0⟩:∃ p0,lp[0]? = some p0:=⟨_,List.getElem?_eq_getElem (by rw [hlp]; exact n1)⟩
  obtain ⟨o0,o1,o2,o3,o4⟩:=own_px hpv hlp hp0
  simp only [Nat.zero_mul,Nat.zero_add] at o0 o1 o2 o3 o4
  have hk0:=hokp p0 (List.mem_of_getElem? hp0)
  have lgl:=(hpv.lt gl rfl).2
  have HOK:=hd_ hokp
  have HPX:=hd_ hpx
  have HOWN:=hd_ hpv
  clear hpx hpv hokp hp0
  by_cases hz:d.so % 2 = 0
  ·have kz:(d.so % 2 == 0) = true:=beq_iff_eq.2 hz
   have hSO:=hd_ (fun W => wsolid_call (a:Int) (b:Int) p0 W)
   go_wp2_with (first | ((first | (go_at_call 8; (with_reducible refine (hM4.out _).mono ?_)) | (go_at_call 26; (with_reducible refine (hSO.out _).mono ?_))); rintro e w1 ⟨rfl,hb⟩; replace hX:=hX.trans hb; replace eP:=hb.heap eP; replace eR:=hb.heap eR; replace o0:=hb.cell o0; replace o1:=hb.cell o1; replace o2:=hb.cell o2; replace o3:=hb.cell o3; replace o4:=hb.cell o4; replace lgl:=Nat.lt_of_lt_of_le lgl hb.size'; clear Ps P_2 P_3 P_4 fP Rs fR; have Ps:=lt_of_heap eP; have Rs:=lt_of_heap eR; have P_2:=cq2 eP rfl; have P_3:=cq3 eP rfl; have P_4:=cq4 eP rfl; have fP:=frozA eP; have fR:=frozA eR; clear hb) | ((with_reducible show wpList _ _ _ (⟨none,.store _ _ _,_,_,_,_⟩ :: _) _ _); refine wpList_st (n:=0) (g:=w.heap.size + 1 + 1) (cells:=(solidF (a:Int) (b:Int) p0).cs) rfl rfl rfl rfl eR rfl (by kernel_rfl) (im_one _) ?_; intro W6 eR6 hU6; have hX6:=hU6.bel hX (by omega)) | fail)
   refine bodyPost_ret (v:=(solidF (a:Int) (b:Int) p0).v) (results_row1 (fn:=Tryz.f25) rfl _ _ (w.heap.size + 1 + 1) 46 (solidF (a:Int) (b:Int) p0).cs.toArray (0,0) _ rfl eR6 Tryz.underlying46 rfl (by kernel_rfl)) rfl ⟨solidF (a:Int) (b:Int) p0,rfl,⟨fun i hi => solid_R _ _ _ _ _ i hi,?_,?_,?_,?_,?_,?_⟩,hX6⟩
   ·show 1 ≤ (a:Int); omega
   ·show (a:Int) ≤ 5; omega
   ·show 1 ≤ (b:Int); omega
   ·show (b:Int) ≤ 5; omega
   ·exact solid_ok _ _ _ _ (sizeB_iff.2 ⟨by omega,by omega,by rw [hm]; omega⟩) hk0
   ·exact solid_px _ _ _ _ (by have:=HMX.out; omega) hk0
  ·have kz:(d.so % 2 == 0) = false:=beq_eq_false_iff_ne.2 hz
   clear o0 o1 o2 o3 o4
   have hOF:=hd_ (fun (W:World) (hs:Sl W 5 n (some ⟨gl,0,none⟩) (pxs lp)) => wof_call (a:Int) (b:Int) (by omega) (by omega) (by omega) (by omega) n hm n1 (by omega) lp hlp (some ⟨gl,0,none⟩) cp W hs)
   go_upto_region 8 with (first | (go_at_call 8; (with_reducible refine (hM4.out _).mono ?_); rintro e w1 ⟨rfl,hb⟩; replace hX:=hX.trans hb; replace eP:=hb.heap eP; replace eR:=hb.heap eR; replace HPX:=hd_ (HPX.out.bel hb); clear Ps P_2 P_3 P_4 fP Rs fR; have Ps:=lt_of_heap eP; have Rs:=lt_of_heap eR; have P_2:=cq2 eP rfl; have P_3:=cq3 eP rfl; have P_4:=cq4 eP rfl; have fP:=frozA eP; have fR:=frozA eR; clear hb) | (go_at_call 19; (with_reducible refine (hOF.out _ HPX.out).mono ?_); rintro e w9 ⟨m,rfl,hIm,hb9⟩) | ((with_reducible show wpList _ _ _ (⟨none,.store _ _ _,_,_,_,_⟩ :: _) _ _); refine wpList_st (n:=0) (g:=w9.heap.size) (cells:=m.cs) rfl rfl rfl rfl (at_new rfl) rfl (by kernel_rfl) (im_one m) ?_; intro Y9 eM hUM) | fail)
   have hld:=img_ld eM
   have eR9:=hUM.heap (at_old (hb9.heap eR)) (by have:=hb9.size'; have:=lt_of_heap eR; omega)
   have hX9:=hUM.bel ((hX.trans hb9).al _) (by have:=hb9.size'; have:=hX.size'; omega)
   have HIM:=hd_ (ImOf.upd (hIm.bel ((Bel.refl w9).al _)) hUM (at_new rfl))
   have HSZ:=hd_ hX.size'
   clear hIm hb9 hUM hX eR eP Ps P_2 P_3 P_4 fP Rs fR
   go_wp2_with (first | ((with_reducible show wpList _ _ _ (⟨some 59,_,_,_,_,_⟩ :: _) _ _); refine wpList_ld rfl rfl rfl (hld) ?_) | ((with_reducible show wpList _ _ _ (⟨none,.store _ _ _,_,_,_,_⟩ :: _) _ _); refine wpList_st (n:=0) (g:=w.heap.size + 1 + 1) (cells:=m.cs) rfl rfl rfl rfl eR9 rfl (by kernel_rfl) (im_one m) ?_; intro W6 eR6 hU6; have hX6:=hU6.bel hX9 (by omega)) | fail)
   refine bodyPost_ret (v:=m.v) (results_row1 (fn:=Tryz.f25) rfl _ _ (w.heap.size + 1 + 1) 46 m.cs.toArray (0,0) _ rfl eR6 Tryz.underlying46 rfl (by kernel_rfl)) rfl ?_
   have H:=HIM.out.upd hU6 eR9
   refine ⟨m,rfl,⟨fun i hi => ((H.lower HSZ.out).pl i hi).R (by omega),?_,?_,?_,?_,?_,?_⟩,hX6⟩
   ·rw [H.ew]; omega
   ·rw [H.ew]; omega
   ·rw [H.eh]; omega
   ·rw [H.eh]; omega
   ·exact H.ok (by omega) (by omega) hm (by omega) hlp HOK.out
   ·exact H.px (by omega) hm hlp (by have:=HMX.out; omega) HOK.out):p:=h
set_option maxHeartbeats 8000000 in
theorem gimage_ex (d:PicD) (r:Rc) (x1:r.x < r.u) (x2:r.u ≤ r.x + 5) (y1:r.y < r.v) (y2:r.v ≤ r.y + 5) (b0:-1000 ≤ r.x) (b1:r.x ≤ 1000) (c0:-1000 ≤ r.y) (c1:r.y ≤ 1000) (mx:Int) (hmx:mx = 255 ∨ mx = 65535) (w:World) (hd:d.In w) :
  Calls Tryz.prog 25 #[d.v,r.val,.int .u16 mx] w fun e w' => ∃ m:Img,e = .returned m.v ∧ ImgG w' w.heap.size mx m ∧ Bel w w':=by
 have hX0:=Bel.refl w
 have e1:0 ≤ d.w % 5:=Int.emod_nonneg _ (by decide)
 have e2:d.w % 5 < 5:=Int.emod_lt_of_pos _ (by decide)
 have e3:0 ≤ d.h % 4:=Int.emod_nonneg _ (by decide)
 have e4:d.h % 4 < 4:=Int.emod_lt_of_pos _ (by decide)
 have hM1:=hd_ (fun W => calls_bs (mod_call d.w 5 W (by decide) (by decide)))
 have hM2:=hd_ (fun W => calls_bs (mod_call d.h 4 W (by decide) (by decide)))
 have hM3:=hd_ (fun W => calls_bs (mod_call (d.w.tdiv 5) 3 W (by decide) (by decide)))
 have hM4:=hd_ (fun W => calls_bs (mod_call d.so 2 W (by decide) (by decide)))
 have ht:=(tdiv_R hd.rw 5 (by simp)).1
 have HGP:=hd_ (fun (n:Nat) (h:n ≤ 100) (W:World) (hb:Bel w W) => gpixels_ex d.mood d.A d.n d.c d.l n h mx hmx W (hd.sl.bel hb) hd.ll hd.ok)
 have HMX:=hd_ hmx
 have w1':IntKind.i64.wrap (r.u - r.x) = r.u - r.x:=wrap_i64 _ (by omega) (by omega)
 have w2':IntKind.i64.wrap (r.v - r.y) = r.v - r.y:=wrap_i64 _ (by omega) (by omega)
 have w3':IntKind.i64.wrap (1 + d.w % 5) = 1 + d.w % 5:=wrap_i64 _ (by omega) (by omega)
 have w4':IntKind.i64.wrap (1 + d.h % 4) = 1 + d.h % 4:=wrap_i64 _ (by omega) (by omega)
 generalize d.w % 5 = DW at *
 generalize d.h % 4 = DH at *
 clear hd hmx hX0
 go_enter Tryz.func25,Tryz.ntmps25
 go_upto_region 1 with fail
 refine at_world (fun V => Bel w V ∧ V.heap[w.heap.size]? = some (.cells #[.int .i64 d.w,.int .i64 d.h,.int .i64 d.so,.int .i64 d.mood,.slice d.A d.n d.c] 66) ∧ V.heap[w.heap.size + 1]? = some (.cells #[.int .i64 r.x,.int .i64 r.y,.int .i64 r.u,.int .i64 r.v] 34) ∧ V.heap[w.heap.size + 1 + 1]? = some (.cells #[.int .i64 0,.int .i64 0,.bool false,.int .u16 0,.int .u16 0,.int .u16 0,.int .u16 0,.int .u16 0,.int .i64 0,.int .i64 0,.int .i64 0,.slice none 0 0,.int .i64 0,.int .i64 0,.int .i64 0,.slice none 0 0,.int .i64 0,.int .i64 0,.int .i64 0,.slice none 0 0,.int .i64 0,.int .i64 0,.int .i64 0,.slice none 0 0,.int .i64 0,.int .i64 0,.int .i64 0,.slice none 0 0] 46)) ⟨(((Bel.refl w).al _).al _).al _,at_old (at_old (at_new (by first | rfl | simp))),at_old (at_new (by first | rfl | simp)),at_new (by first | rfl | simp)⟩ ?_
 rintro V ⟨hX,eP,eC,eR⟩
 have Ps:=lt_of_heap eP
 have Cs:=lt_of_heap eC
 have Rs:=lt_of_heap eR
 have P_0:=cq0 eP rfl
 have P_1:=cq1 eP rfl
 have P_2:=cq2 eP rfl
 have P_3:=cq3 eP rfl
 have P_4:=cq4 eP rfl
 have C_0:=cq0 eC rfl
 have C_1:=cq1 eC rfl
 have C_2:=cq2 eC rfl
 have C_3:=cq3 eC rfl
 have fP:=frozA eP
 have fC:=frozA eC
 have fR:=frozA eR
 have qp0:=fun q:Bw V => q.h.cell P_0
 have qp1:=fun q:Bw V => q.h.cell P_1
 have hx:=hd_ (fun q:Bw V => calls_bq (q:=q) (hM1.out q.W))
 have hy:=hd_ (fun q:Bw V => calls_bq (q:=q) (hM2.out q.W))
 have HE:=hd_ (And.intro hX (And.intro eP (And.intro eC eR)))
 clear Ps P_0 P_1 P_2 P_3 P_4 fP Cs C_0 C_1 C_2 C_3 fC Rs fR hX eP eC eR
 refine region_bel (by kernel_rfl) (by kernel_rfl) ?_
 repeat (go_big_quiet_step (first | (go_at_call 8; with_reducible exact hx.out _) | (go_at_call 8; with_reducible exact hy.out _)))
 refine wpQuiet_nil ?_
 rintro w2 ⟨q,rfl⟩
 clear qp0 qp1 hx hy hM1 hM2
 go_upto_region 2 with fail
 refine at_world (fun Y => Bel w Y ∧ Y.heap[w.heap.size]? = some (.cells #[.int .i64 d.w,.int .i64 d.h,.int .i64 d.so,.int .i64 d.mood,.slice d.A d.n d.c] 66) ∧ Y.heap[w.heap.size + 1]? = some (.cells #[.int .i64 r.x,.int .i64 r.y,.int .i64 r.u,.int .i64 r.v] 34) ∧ Y.heap[w.heap.size + 1 + 1]? = some (.cells #[.int .i64 0,.int .i64 0,.bool false,.int .u16 0,.int .u16 0,.int .u16 0,.int .u16 0,.int .u16 0,.int .i64 0,.int .i64 0,.int .i64 0,.slice none 0 0,.int .i64 0,.int .i64 0,.int .i64 0,.slice none 0 0,.int .i64 0,.int .i64 0,.int .i64 0,.slice none 0 0,.int .i64 0,.int .i64 0,.int .i64 0,.slice none 0 0,.int .i64 0,.int .i64 0,.int .i64 0,.slice none 0 0] 46)) ⟨HE.out.1.trans q.h,q.h.heap HE.out.2.1,q.h.heap HE.out.2.2.1,q.h.heap HE.out.2.2.2⟩ ?_
 clear HE
 rintro Y ⟨hX,eP,eC,eR⟩
 have HE:=hd_ (And.intro hX (And.intro eP (And.intro eC eR)))
 have Ps:=lt_of_heap eP
 have Cs:=lt_of_heap eC
 have Rs:=lt_of_heap eR
 have P_0:=cq0 eP rfl
 have P_1:=cq1 eP rfl
 have P_2:=cq2 eP rfl
 have P_3:=cq3 eP rfl
 have P_4:=cq4 eP rfl
 have C_0:=cq0 eC rfl
 have C_1:=cq1 eC rfl
 have C_2:=cq2 eC rfl
 have C_3:=cq3 eC rfl
 have fP:=frozA eP
 have fC:=frozA eC
 have fR:=frozA eR
 by_cases hz:d.w.tdiv 5 % 3 = 0
 ·have kz:(d.w.tdiv 5 % 3 == 0) = true:=beq_iff_eq.2 hz
  go_upto_region 3 with (first | (go_at_call 8; (with_reducible refine (hM3.out _).mono ?_); rintro e w1 ⟨rfl,hb⟩; have HB:=hd_ hb; replace hX:=hX.trans hb; replace eP:=hb.heap eP; replace eC:=hb.heap eC; replace eR:=hb.heap eR; clear Ps P_0 P_1 P_2 P_3 P_4 fP Cs C_0 C_1 C_2 C_3 fC Rs fR; have Ps:=lt_of_heap eP; have Cs:=lt_of_heap eC; have Rs:=lt_of_heap eR; have P_0:=cq0 eP rfl; have P_1:=cq1 eP rfl; have P_2:=cq2 eP rfl; have P_3:=cq3 eP rfl; have P_4:=cq4 eP rfl; have C_0:=cq0 eC rfl; have C_1:=cq1 eC rfl; have C_2:=cq2 eC rfl; have C_3:=cq3 eC rfl; have fP:=frozA eP; have fC:=frozA eC; have fR:=frozA eR; clear hb) | fail)
  have hYb:=HB.out
  have qc0:=fun q:Bw w1 => q.h.cell C_0
  have qc1:=fun q:Bw w1 => q.h.cell C_1
  have qc2:=fun q:Bw w1 => q.h.cell C_2
  have qc3:=fun q:Bw w1 => q.h.cell C_3
  obtain ⟨a,ha⟩:∃ a:Nat,r.u - r.x = (a:Int):=⟨(r.u - r.x).toNat,by omega⟩
  obtain ⟨b,hb⟩:∃ b:Nat,r.v - r.y = (b:Int):=⟨(r.v - r.y).toNat,by omega⟩
  have a1:1 ≤ a:=by omega
  have a5:a ≤ 5:=by omega
  have b1':1 ≤ b:=by omega
  have b5:b ≤ 5:=by omega
  have wa:IntKind.i64.wrap (a:Int) = (a:Int):=wrap_i64 _ (by omega) (by omega)
  have wb:IntKind.i64.wrap (b:Int) = (b:Int):=wrap_i64 _ (by omega) (by omega)
  refine region_bel (by kernel_rfl) (by kernel_rfl) ?_
  repeat (go_big_quiet_step (fail))
  refine wpQuiet_nil ?_
  rintro w3 ⟨q3,rfl⟩
  go_upto_region 4 with fail
  have hbZ:=hYb.trans q3.h
  clear qc0 qc1 qc2 qc3 ha hb hz kz
  exact tlWImg0
 ·have kz:(d.w.tdiv 5 % 3 == 0) = false:=beq_eq_false_iff_ne.2 hz
  obtain ⟨a,ha⟩:∃ a:Nat,1 + DW = (a:Int):=⟨(1 + DW).toNat,by omega⟩
  obtain ⟨b,hb⟩:∃ b:Nat,1 + DH = (b:Int):=⟨(1 + DH).toNat,by omega⟩
  have a1:1 ≤ a:=by omega
  have a5:a ≤ 5:=by omega
  have b1':1 ≤ b:=by omega
  have b5:b ≤ 5:=by omega
  rw [ha,hb]
  go_upto_region 4 with (first | (go_at_call 8; (with_reducible refine (hM3.out _).mono ?_); rintro e w1 ⟨rfl,hb⟩; have HB:=hd_ hb; replace hX:=hX.trans hb; replace eP:=hb.heap eP; replace eC:=hb.heap eC; replace eR:=hb.heap eR; clear Ps P_0 P_1 P_2 P_3 P_4 fP Cs C_0 C_1 C_2 C_3 fC Rs fR; have Ps:=lt_of_heap eP; have Cs:=lt_of_heap eC; have Rs:=lt_of_heap eR; have P_0:=cq0 eP rfl; have P_1:=cq1 eP rfl; have P_2:=cq2 eP rfl; have P_3:=cq3 eP rfl; have P_4:=cq4 eP rfl; have C_0:=cq0 eC rfl; have C_1:=cq1 eC rfl; have C_2:=cq2 eC rfl; have C_3:=cq3 eC rfl; have fP:=frozA eP; have fC:=frozA eC; have fR:=frozA eR; clear hb) | fail)
  have hbZ:=HB.out
  clear ha hb hz kz
  exact tlWImg0
end Go.Proofs.YtepfoelgegljbaaGreatDoor
