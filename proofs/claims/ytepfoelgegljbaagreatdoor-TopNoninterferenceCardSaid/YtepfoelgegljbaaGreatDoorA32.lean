/- Part A32. -/
import Derived.Test.YtepfoelgegljbaaGreatDoorA31
namespace Go.Proofs.YtepfoelgegljbaaGreatDoor
set_option maxRecDepth 100000
open Go.RowKit
set_option linter.unusedVariables false
set_option linter.unusedSimpArgs false
structure PlZ (W:World) (w h:Int) (n:Nat) (g:Nat) (p:Pln):Prop where
 ew:p.w = w
 eh:p.h = h
 es:p.st = w
 eA:p.A = some ⟨g,0,none⟩
 en:p.n = n
 ec:p.c = n
 hp:W.heap[g]? = some (.cells (smp (List.replicate n 0)).toArray 27)
theorem rep_cmp (l:List Px) (k:Nat):List.replicate l.length (0:Int) = upto 0 (cmpL l k) 0:=by rw [upto_zero,cmpL_len]
structure PlS (W:World) (l:List Px) (G:Nat → Nat) (i k:Nat):Prop where
 h:∀ q,q < 5 → W.heap[G q]? = some (.cells (smp (upto 0 (cmpL l q) (if q < k then i + 1 else i))).toArray 27)
theorem PlS.bel {W W':World} {l:List Px} {G:Nat → Nat} {i k:Nat} (H:PlS W l G i k) (hb:Bel W W'):PlS W' l G i k:=⟨fun q hq => hb.heap (H.h q hq)⟩
theorem PlS.set {W:World} {l:List Px} {G:Nat → Nat} {i k:Nat} {p:Px} (H:PlS W l G i k) (hG:∀ a b,a < 5 → b < 5 → G a = G b → a = b) (hk:k < 5) (hp:l[i]? = some p):PlS (W.setCell ⟨G k,i,none⟩ (.int .u16 (p.cmp k))) l G i (k + 1):=⟨fun q hq => by
 by_cases hqk:q = k
 ·subst hqk
  have h:=heap_set (i:=i) (.int .u16 (p.cmp q)) (H.h q hq)
  rw [if_neg (Nat.lt_irrefl q),smp_set,upto_set _ _ _ _ (show (cmpL l q)[i]? = some (p.cmp q) by unfold cmpL; rw [List.getElem?_map,hp]; rfl)] at h
  rw [if_pos (Nat.lt_succ_self q)]
  exact h
 ·have h:=heap_set_other (b:=G k) (i:=i) (.int .u16 (p.cmp k)) (fun e => hqk (hG _ _ hk hq e).symm) (H.h q hq)
  rw [h]
  by_cases hlt:q < k
  ·rw [if_pos hlt,if_pos (by omega)]
  ·rw [if_neg hlt,if_neg (by omega)]⟩
theorem PlS.next {W:World} {l:List Px} {G:Nat → Nat} {i:Nat} (H:PlS W l G i 5):PlS W l G (i + 1) 0:=⟨fun q hq => by
 have h:=H.h q hq
 rw [if_pos hq] at h
 rw [if_neg (Nat.not_lt_zero _)]
 exact h⟩
theorem PlS.cell {W:World} {l:List Px} {G:Nat → Nat} {i k:Nat} (H:PlS W l G i k) (hi:i < l.length) (hk:k ≤ 5) (q:Nat) (hq:q < 5):∃ v,W.cell? ⟨G q,i,none⟩ = some v:=by
 have hl:i < (upto 0 (cmpL l q) (if q < k then i + 1 else i)).length:=by
  have:=cmpL_len l q
  unfold upto
  rw [List.length_append,List.length_take,List.length_replicate]
  omega
 exact ⟨_,cell_of (H.h q hq) (smp_at (List.getElem?_eq_getElem hl))⟩
theorem tlWOf0 {p:Prop} (h:p:=by
  dsimp only
  rw [if_neg hik]
  have H:=HPL.out i (by omega)
  exact ⟨⟨H.1.ew,H.1.eh,H.1.es,H.1.eA,H.1.en,H.1.ec,hU3.heap (at_old H.1.hp) (by have:=H.2.1; omega)⟩,H.2.1,by have:=H.2.2; omega⟩):p:=h
theorem tlWOf1 {p:Prop} (h:p:=by
  rw [setPl_same _ _ (by decide)]
  dsimp only
  rw [if_pos rfl]
  exact ⟨⟨rfl,rfl,rfl,rfl,rfl,rfl,hnew⟩,lM,hsz⟩):p:=h
set_option maxHeartbeats 8000000 in
theorem wof_call (iw ih:Int) (w1:1 ≤ iw) (w2:iw ≤ 1000) (h1:1 ≤ ih) (h2:ih ≤ 1000) (n:Nat) (hn:iw * ih = n) (n0:1 ≤ n) (n1:n ≤ 1000) (l:List Px) (hlen:l.length = n) (A:Option Addr) (c:Nat) (w:World) (hl:Sl w 5 n A (pxs l)) :
  Calls Tryz.prog 19 #[.int .i64 iw,.int .i64 ih,.slice A n c] w fun e w' => ∃ m:Img,e = .returned (.tuple #[m.v,.bool true]) ∧ ImOf w' w.heap.size iw ih l n m ∧ Bel w w':=by
 have hS:=hd_ (fun V => calls_bs (fits_call iw ih V))
 have hsz:sizeB iw ih = true:=sizeB_iff.2 ⟨w1,h1,by rw [hn]; omega⟩
 rw [hsz] at hS
 have hwr:IntKind.i64.wrap (iw * ih) = n:=by rw [hn]; exact wrap_i64 _ (by omega) (by omega)
 have hmk:=fun w => run_make_row' (P:=Tryz.prog) 41 27 (.int .u16 0) 2 Tryz.underlying41 (by kernel_rfl) rfl .i64 .i64 n (by omega) (by omega) w
 have HL:=hd_ hl
 have HLEN:=hd_ hlen
 clear hsz hl hlen hn
 go_enter Tryz.func19,Tryz.ntmps19
 go_upto_region 1 with fail
 refine at_world (fun V => Bel w V ∧ V.heap[w.heap.size]? = some (.cells #[.int .i64 0,.int .i64 0,.bool false,.int .u16 0,.int .u16 0,.int .u16 0,.int .u16 0,.int .u16 0,.int .i64 0,.int .i64 0,.int .i64 0,.slice none 0 0,.int .i64 0,.int .i64 0,.int .i64 0,.slice none 0 0,.int .i64 0,.int .i64 0,.int .i64 0,.slice none 0 0,.int .i64 0,.int .i64 0,.int .i64 0,.slice none 0 0,.int .i64 0,.int .i64 0,.int .i64 0,.slice none 0 0] 46)) ⟨(Bel.refl w).al _,at_new (by first | rfl | simp)⟩ ?_
 rintro V ⟨hX,eR⟩
 have Rs:=lt_of_heap eR
 have fR:=frozA eR
 go_upto_region 3 with (first | (go_at_call 37; (with_reducible refine (hS.out _).mono ?_); rintro e w1 ⟨rfl,hb⟩; replace hX:=hX.trans hb; replace eR:=hb.heap eR; clear Rs fR; have Rs:=lt_of_heap eR; have fR:=frozA eR; clear hb) | fail)
 have HX1:=hd_ hX
 have ER1:=hd_ eR
 have hg8:w.heap.size < w1.heap.size:=lt_of_heap eR
 clear hX eR Rs fR
 go_upto_region 4 with (first | ((with_reducible show wpList _ _ _ (⟨none,.store _ _ _,_,_,_,_⟩ :: _) _ _); refine wpList_st (n:=0) (g:=w1.heap.size) (cells:=(⟨iw,ih,false,pxz,zPl,zPl,zPl,zPl,zPl⟩:Img).cs) rfl rfl rfl rfl (at_new rfl) rfl (by kernel_rfl) (im_one _) ?_; intro Y eM hU; have hX:=hU.bel (HX1.out.al _) (Nat.le_of_lt hg8); have eR:=hU.heap (at_old ER1.out) (by omega)) | fail)
 obtain ⟨T8,hT8⟩:∃ T8,T8 = w1.heap.size:=⟨_,rfl⟩
 rw [← hT8] at eM hg8 ⊢
 have HX:=hd_ hX
 have HM:=hd_ eM
 have HR:=hd_ eR
 clear eM eR hX hT8 HX1 ER1
 go_wp2_with fail
 go_loopg [9] 5 (fun gk s9 wr => ∃ (k:Nat) (m:Img) (G:Nat → Nat),k + gk = 5 ∧ s9 = .int .i64 k ∧ Bel w wr ∧ wr.heap[w.heap.size]? = some (.cells #[.int .i64 0,.int .i64 0,.bool false,.int .u16 0,.int .u16 0,.int .u16 0,.int .u16 0,.int .u16 0,.int .i64 0,.int .i64 0,.int .i64 0,.slice none 0 0,.int .i64 0,.int .i64 0,.int .i64 0,.slice none 0 0,.int .i64 0,.int .i64 0,.int .i64 0,.slice none 0 0,.int .i64 0,.int .i64 0,.int .i64 0,.slice none 0 0,.int .i64 0,.int .i64 0,.int .i64 0,.slice none 0 0] 46) ∧ wr.heap[T8]? = some (.cells #[.int .i64 m.w,.int .i64 m.h,.bool m.solid,.int .u16 m.col.x,.int .u16 m.col.y,.int .u16 m.col.z,.int .u16 m.col.a,.int .u16 m.col.f,.int .i64 m.p0.w,.int .i64 m.p0.h,.int .i64 m.p0.st,.slice m.p0.A m.p0.n m.p0.c,.int .i64 m.p1.w,.int .i64 m.p1.h,.int .i64 m.p1.st,.slice m.p1.A m.p1.n m.p1.c,.int .i64 m.p2.w,.int .i64 m.p2.h,.int .i64 m.p2.st,.slice m.p2.A m.p2.n m.p2.c,.int .i64 m.p3.w,.int .i64 m.p3.h,.int .i64 m.p3.st,.slice m.p3.A m.p3.n m.p3.c,.int .i64 m.p4.w,.int .i64 m.p4.h,.int .i64 m.p4.st,.slice m.p4.A m.p4.n m.p4.c] 46) ∧ m.w = iw ∧ m.h = ih ∧ m.solid = false ∧ m.col = pxz ∧ (∀ i,i < k → PlZ wr iw ih n (G i) (m.pl i) ∧ T8 < G i ∧ G i < wr.heap.size) ∧ (∀ i j,i < j → j < k → G i < G j))
 case atStart => exact ⟨0,⟨iw,ih,false,pxz,zPl,zPl,zPl,zPl,zPl⟩,fun _ => 0,rfl,rfl,HX.out,HR.out,HM.out,rfl,rfl,rfl,rfl,fun i hi => absurd hi (Nat.not_lt_zero _),fun i j _ hj => absurd hj (Nat.not_lt_zero _)⟩
 case round =>
  obtain ⟨k,m,G,hgk,rfl,hX,eR,eM,m1,m2,m3,m4,hpl,hG⟩:=hrel
  obtain ⟨w8,rfl⟩:∃ W:World,W = wr:=⟨_,rfl⟩
  clear HX HM HR
  have HPL:=hd_ hpl
  have HG:=hd_ hG
  have HX:=hd_ hX
  have HR:=hd_ eR
  clear hpl hG
  by_cases hlt:k < 5
  case pos =>
   have hd:decide ((k:Int) < 5) = true:=decide_eq_true (by omega)
   have hmk1:=hmk w8
   have lM:=lt_of_heap eM
   have HM:=hd_ eM
   clear hX eR hmk
   have hk:k = 0 ∨ k = 1 ∨ k = 2 ∨ k = 3 ∨ k = 4:=by omega
   rcases hk with rfl | rfl | rfl | rfl | rfl
   ·go_wp2_with (first | ((with_reducible show wpList _ _ _ (⟨none,.store _ _ _,_,_,_,_⟩ :: _) _ _); refine wpList_stp (g:=T8) (o:=8) [.int .i64 m.w,.int .i64 m.h,.bool m.solid,.int .u16 m.col.x,.int .u16 m.col.y,.int .u16 m.col.z,.int .u16 m.col.a,.int .u16 m.col.f] [.int .i64 m.p0.w,.int .i64 m.p0.h,.int .i64 m.p0.st,.slice m.p0.A m.p0.n m.p0.c] [.int .i64 m.p1.w,.int .i64 m.p1.h,.int .i64 m.p1.st,.slice m.p1.A m.p1.n m.p1.c,.int .i64 m.p2.w,.int .i64 m.p2.h,.int .i64 m.p2.st,.slice m.p2.A m.p2.n m.p2.c,.int .i64 m.p3.w,.int .i64 m.p3.h,.int .i64 m.p3.st,.slice m.p3.A m.p3.n m.p3.c,.int .i64 m.p4.w,.int .i64 m.p4.h,.int .i64 m.p4.st,.slice m.p4.A m.p4.n m.p4.c] (⟨iw,ih,iw,some ⟨w8.heap.size,0,none⟩,n,n,List.replicate n 0⟩:Pln).cs rfl rfl rfl rfl (at_old HM.out) rfl rfl (by kernel_rfl) (pl_one _) ?_; intro Y3 eM3 hU3) | fail)
    go_roundg (gk - 1)
    case measure => omega
    case rel =>
     have hnew:Y3.heap[w8.heap.size]? = some (.cells (smp (List.replicate n 0)).toArray 27):=by
      refine (hU3.heap (at_new rfl) (by omega)).trans ?_
      rw [made_one]
      simp [smp]
     have hsz:w8.heap.size < Y3.heap.size:=lt_of_heap hnew
     have hB3:=hU3.bel (HX.out.al _) (by omega)
     refine ⟨1,m.setPl 0 (⟨iw,ih,iw,some ⟨w8.heap.size,0,none⟩,n,n,List.replicate n 0⟩:Pln),fun i => if i = 0 then w8.heap.size else G i,by omega,by go_num,hB3,hU3.heap (at_old HR.out) (by omega),eM3,m1,m2,m3,m4,fun i hi => ?_,fun i j hij hj => ?_⟩
     ·by_cases hik:i = 0
      ·subst hik
       exact tlWOf1
      ·rw [setPl_other _ _ _ (by omega) hik]
       exact tlWOf0
     ·show (if i = 0 then w8.heap.size else G i) < (if j = 0 then w8.heap.size else G j)
      rw [if_neg (by omega)]
      by_cases hjk:j = 0
      ·rw [if_pos hjk]
       exact (HPL.out i (by omega)).2.2
      ·rw [if_neg hjk]
       exact HG.out i j hij (by omega)
   ·go_wp2_with (first | ((with_reducible show wpList _ _ _ (⟨none,.store _ _ _,_,_,_,_⟩ :: _) _ _); refine wpList_stp (g:=T8) (o:=12) [.int .i64 m.w,.int .i64 m.h,.bool m.solid,.int .u16 m.col.x,.int .u16 m.col.y,.int .u16 m.col.z,.int .u16 m.col.a,.int .u16 m.col.f,.int .i64 m.p0.w,.int .i64 m.p0.h,.int .i64 m.p0.st,.slice m.p0.A m.p0.n m.p0.c] [.int .i64 m.p1.w,.int .i64 m.p1.h,.int .i64 m.p1.st,.slice m.p1.A m.p1.n m.p1.c] [.int .i64 m.p2.w,.int .i64 m.p2.h,.int .i64 m.p2.st,.slice m.p2.A m.p2.n m.p2.c,.int .i64 m.p3.w,.int .i64 m.p3.h,.int .i64 m.p3.st,.slice m.p3.A m.p3.n m.p3.c,.int .i64 m.p4.w,.int .i64 m.p4.h,.int .i64 m.p4.st,.slice m.p4.A m.p4.n m.p4.c] (⟨iw,ih,iw,some ⟨w8.heap.size,0,none⟩,n,n,List.replicate n 0⟩:Pln).cs rfl rfl rfl rfl (at_old HM.out) rfl rfl (by kernel_rfl) (pl_one _) ?_; intro Y3 eM3 hU3) | fail)
    go_roundg (gk - 1)
    case measure => omega
    case rel =>
     have hnew:Y3.heap[w8.heap.size]? = some (.cells (smp (List.replicate n 0)).toArray 27):=by
      refine (hU3.heap (at_new rfl) (by omega)).trans ?_
      rw [made_one]
      simp [smp]
     have hsz:w8.heap.size < Y3.heap.size:=lt_of_heap hnew
     have hB3:=hU3.bel (HX.out.al _) (by omega)
     refine ⟨2,m.setPl 1 (⟨iw,ih,iw,some ⟨w8.heap.size,0,none⟩,n,n,List.replicate n 0⟩:Pln),fun i => if i = 1 then w8.heap.size else G i,by omega,by go_num,hB3,hU3.heap (at_old HR.out) (by omega),eM3,m1,m2,m3,m4,fun i hi => ?_,fun i j hij hj => ?_⟩
     ·by_cases hik:i = 1
      ·subst hik
       exact tlWOf1
      ·rw [setPl_other _ _ _ (by omega) hik]
       exact tlWOf0
     ·show (if i = 1 then w8.heap.size else G i) < (if j = 1 then w8.heap.size else G j)
      rw [if_neg (by omega)]
      by_cases hjk:j = 1
      ·rw [if_pos hjk]
       exact (HPL.out i (by omega)).2.2
      ·rw [if_neg hjk]
       exact HG.out i j hij (by omega)
   ·go_wp2_with (first | ((with_reducible show wpList _ _ _ (⟨none,.store _ _ _,_,_,_,_⟩ :: _) _ _); refine wpList_stp (g:=T8) (o:=16) [.int .i64 m.w,.int .i64 m.h,.bool m.solid,.int .u16 m.col.x,.int .u16 m.col.y,.int .u16 m.col.z,.int .u16 m.col.a,.int .u16 m.col.f,.int .i64 m.p0.w,.int .i64 m.p0.h,.int .i64 m.p0.st,.slice m.p0.A m.p0.n m.p0.c,.int .i64 m.p1.w,.int .i64 m.p1.h,.int .i64 m.p1.st,.slice m.p1.A m.p1.n m.p1.c] [.int .i64 m.p2.w,.int .i64 m.p2.h,.int .i64 m.p2.st,.slice m.p2.A m.p2.n m.p2.c] [.int .i64 m.p3.w,.int .i64 m.p3.h,.int .i64 m.p3.st,.slice m.p3.A m.p3.n m.p3.c,.int .i64 m.p4.w,.int .i64 m.p4.h,.int .i64 m.p4.st,.slice m.p4.A m.p4.n m.p4.c] (⟨iw,ih,iw,some ⟨w8.heap.size,0,none⟩,n,n,List.replicate n 0⟩:Pln).cs rfl rfl rfl rfl (at_old HM.out) rfl rfl (by kernel_rfl) (pl_one _) ?_; intro Y3 eM3 hU3) | fail)
    go_roundg (gk - 1)
    case measure => omega
    case rel =>
     have hnew:Y3.heap[w8.heap.size]? = some (.cells (smp (List.replicate n 0)).toArray 27):=by
      refine (hU3.heap (at_new rfl) (by omega)).trans ?_
      rw [made_one]
      simp [smp]
     have hsz:w8.heap.size < Y3.heap.size:=lt_of_heap hnew
     have hB3:=hU3.bel (HX.out.al _) (by omega)
     refine ⟨3,m.setPl 2 (⟨iw,ih,iw,some ⟨w8.heap.size,0,none⟩,n,n,List.replicate n 0⟩:Pln),fun i => if i = 2 then w8.heap.size else G i,by omega,by go_num,hB3,hU3.heap (at_old HR.out) (by omega),eM3,m1,m2,m3,m4,fun i hi => ?_,fun i j hij hj => ?_⟩
     ·by_cases hik:i = 2
      ·subst hik
       exact tlWOf1
      ·rw [setPl_other _ _ _ (by omega) hik]
       exact tlWOf0
     ·show (if i = 2 then w8.heap.size else G i) < (if j = 2 then w8.heap.size else G j)
      rw [if_neg (by omega)]
      by_cases hjk:j = 2
      ·rw [if_pos hjk]
       exact (HPL.out i (by omega)).2.2
      ·rw [if_neg hjk]
       exact HG.out i j hij (by omega)
   ·go_wp2_with (first | ((with_reducible show wpList _ _ _ (⟨none,.store _ _ _,_,_,_,_⟩ :: _) _ _); refine wpList_stp (g:=T8) (o:=20) [.int .i64 m.w,.int .i64 m.h,.bool m.solid,.int .u16 m.col.x,.int .u16 m.col.y,.int .u16 m.col.z,.int .u16 m.col.a,.int .u16 m.col.f,.int .i64 m.p0.w,.int .i64 m.p0.h,.int .i64 m.p0.st,.slice m.p0.A m.p0.n m.p0.c,.int .i64 m.p1.w,.int .i64 m.p1.h,.int .i64 m.p1.st,.slice m.p1.A m.p1.n m.p1.c,.int .i64 m.p2.w,.int .i64 m.p2.h,.int .i64 m.p2.st,.slice m.p2.A m.p2.n m.p2.c] [.int .i64 m.p3.w,.int .i64 m.p3.h,.int .i64 m.p3.st,.slice m.p3.A m.p3.n m.p3.c] [.int .i64 m.p4.w,.int .i64 m.p4.h,.int .i64 m.p4.st,.slice m.p4.A m.p4.n m.p4.c] (⟨iw,ih,iw,some ⟨w8.heap.size,0,none⟩,n,n,List.replicate n 0⟩:Pln).cs rfl rfl rfl rfl (at_old HM.out) rfl rfl (by kernel_rfl) (pl_one _) ?_; intro Y3 eM3 hU3) | fail)
    go_roundg (gk - 1)
    case measure => omega
    case rel =>
     have hnew:Y3.heap[w8.heap.size]? = some (.cells (smp (List.replicate n 0)).toArray 27):=by
      refine (hU3.heap (at_new rfl) (by omega)).trans ?_
      rw [made_one]
      simp [smp]
     have hsz:w8.heap.size < Y3.heap.size:=lt_of_heap hnew
     have hB3:=hU3.bel (HX.out.al _) (by omega)
     refine ⟨4,m.setPl 3 (⟨iw,ih,iw,some ⟨w8.heap.size,0,none⟩,n,n,List.replicate n 0⟩:Pln),fun i => if i = 3 then w8.heap.size else G i,by omega,by go_num,hB3,hU3.heap (at_old HR.out) (by omega),eM3,m1,m2,m3,m4,fun i hi => ?_,fun i j hij hj => ?_⟩
     ·by_cases hik:i = 3
      ·subst hik
       exact tlWOf1
      ·rw [setPl_other _ _ _ (by omega) hik]
       exact tlWOf0
     ·show (if i = 3 then w8.heap.size else G i) < (if j = 3 then w8.heap.size else G j)
      rw [if_neg (by omega)]
      by_cases hjk:j = 3
      ·rw [if_pos hjk]
       exact (HPL.out i (by omega)).2.2
      ·rw [if_neg hjk]
       exact HG.out i j hij (by omega)
   ·go_wp2_with (first | ((with_reducible show wpList _ _ _ (⟨none,.store _ _ _,_,_,_,_⟩ :: _) _ _); refine wpList_stp (g:=T8) (o:=24) [.int .i64 m.w,.int .i64 m.h,.bool m.solid,.int .u16 m.col.x,.int .u16 m.col.y,.int .u16 m.col.z,.int .u16 m.col.a,.int .u16 m.col.f,.int .i64 m.p0.w,.int .i64 m.p0.h,.int .i64 m.p0.st,.slice m.p0.A m.p0.n m.p0.c,.int .i64 m.p1.w,.int .i64 m.p1.h,.int .i64 m.p1.st,.slice m.p1.A m.p1.n m.p1.c,.int .i64 m.p2.w,.int .i64 m.p2.h,.int .i64 m.p2.st,.slice m.p2.A m.p2.n m.p2.c,.int .i64 m.p3.w,.int .i64 m.p3.h,.int .i64 m.p3.st,.slice m.p3.A m.p3.n m.p3.c] [.int .i64 m.p4.w,.int .i64 m.p4.h,.int .i64 m.p4.st,.slice m.p4.A m.p4.n m.p4.c] [] (⟨iw,ih,iw,some ⟨w8.heap.size,0,none⟩,n,n,List.replicate n 0⟩:Pln).cs rfl rfl rfl rfl (at_old HM.out) rfl rfl (by kernel_rfl) (pl_one _) ?_; intro Y3 eM3 hU3) | fail)
    go_roundg (gk - 1)
    case measure => omega
    case rel =>
     have hnew:Y3.heap[w8.heap.size]? = some (.cells (smp (List.replicate n 0)).toArray 27):=by
      refine (hU3.heap (at_new rfl) (by omega)).trans ?_
      rw [made_one]
      simp [smp]
     have hsz:w8.heap.size < Y3.heap.size:=lt_of_heap hnew
     have hB3:=hU3.bel (HX.out.al _) (by omega)
     refine ⟨5,m.setPl 4 (⟨iw,ih,iw,some ⟨w8.heap.size,0,none⟩,n,n,List.replicate n 0⟩:Pln),fun i => if i = 4 then w8.heap.size else G i,by omega,by go_num,hB3,hU3.heap (at_old HR.out) (by omega),eM3,m1,m2,m3,m4,fun i hi => ?_,fun i j hij hj => ?_⟩
     ·by_cases hik:i = 4
      ·subst hik
       exact tlWOf1
      ·rw [setPl_other _ _ _ (by omega) hik]
       exact tlWOf0
     ·show (if i = 4 then w8.heap.size else G i) < (if j = 4 then w8.heap.size else G j)
      rw [if_neg (by omega)]
      by_cases hjk:j = 4
      ·rw [if_pos hjk]
       exact (HPL.out i (by omega)).2.2
      ·rw [if_neg hjk]
       exact HG.out i j hij (by omega)
  case neg =>
   obtain rfl:k = 5:=by omega
   clear hmk
   have hGinj:∀ a b,a < 5 → b < 5 → G a = G b → a = b:=fun a b ha hb e => by
    rcases Nat.lt_trichotomy a b with h | h | h
    ·have:=HG.out a b h hb; omega
    ·exact h
    ·have:=HG.out b a h ha; omega
   have hS0:PlS w8 l G 0 0:=⟨fun q hq => by
    rw [if_neg (Nat.not_lt_zero _),← rep_cmp,HLEN.out]
    exact (HPL.out q hq).1.hp⟩
   have HGI:=hd_ hGinj
   have HS0:=hd_ hS0
   have HM8:=hd_ eM
   have eM2:w8.heap[T8]? = some (.cells #[.int .i64 iw,.int .i64 ih,.bool false,.int .u16 0,.int .u16 0,.int .u16 0,.int .u16 0,.int .u16 0,.int .i64 iw,.int .i64 ih,.int .i64 iw,.slice (some ⟨G 0,0,none⟩) n n,.int .i64 iw,.int .i64 ih,.int .i64 iw,.slice (some ⟨G 1,0,none⟩) n n,.int .i64 iw,.int .i64 ih,.int .i64 iw,.slice (some ⟨G 2,0,none⟩) n n,.int .i64 iw,.int .i64 ih,.int .i64 iw,.slice (some ⟨G 3,0,none⟩) n n,.int .i64 iw,.int .i64 ih,.int .i64 iw,.slice (some ⟨G 4,0,none⟩) n n] 46):=by
    have h:=eM
    have x0w:m.p0.w = iw:=(HPL.out 0 (by decide)).1.ew
    have x0h:m.p0.h = ih:=(HPL.out 0 (by decide)).1.eh
    have x0st:m.p0.st = iw:=(HPL.out 0 (by decide)).1.es
    have x0A:m.p0.A = some ⟨G 0,0,none⟩:=(HPL.out 0 (by decide)).1.eA
    have x0n:m.p0.n = n:=(HPL.out 0 (by decide)).1.en
    have x0c:m.p0.c = n:=(HPL.out 0 (by decide)).1.ec
    have x1w:m.p1.w = iw:=(HPL.out 1 (by decide)).1.ew
    have x1h:m.p1.h = ih:=(HPL.out 1 (by decide)).1.eh
    have x1st:m.p1.st = iw:=(HPL.out 1 (by decide)).1.es
    have x1A:m.p1.A = some ⟨G 1,0,none⟩:=(HPL.out 1 (by decide)).1.eA
    have x1n:m.p1.n = n:=(HPL.out 1 (by decide)).1.en
    have x1c:m.p1.c = n:=(HPL.out 1 (by decide)).1.ec
    have x2w:m.p2.w = iw:=(HPL.out 2 (by decide)).1.ew
    have x2h:m.p2.h = ih:=(HPL.out 2 (by decide)).1.eh
    have x2st:m.p2.st = iw:=(HPL.out 2 (by decide)).1.es
    have x2A:m.p2.A = some ⟨G 2,0,none⟩:=(HPL.out 2 (by decide)).1.eA
    have x2n:m.p2.n = n:=(HPL.out 2 (by decide)).1.en
    have x2c:m.p2.c = n:=(HPL.out 2 (by decide)).1.ec
    have x3w:m.p3.w = iw:=(HPL.out 3 (by decide)).1.ew
    have x3h:m.p3.h = ih:=(HPL.out 3 (by decide)).1.eh
    have x3st:m.p3.st = iw:=(HPL.out 3 (by decide)).1.es
    have x3A:m.p3.A = some ⟨G 3,0,none⟩:=(HPL.out 3 (by decide)).1.eA
    have x3n:m.p3.n = n:=(HPL.out 3 (by decide)).1.en
    have x3c:m.p3.c = n:=(HPL.out 3 (by decide)).1.ec
    have x4w:m.p4.w = iw:=(HPL.out 4 (by decide)).1.ew
    have x4h:m.p4.h = ih:=(HPL.out 4 (by decide)).1.eh
    have x4st:m.p4.st = iw:=(HPL.out 4 (by decide)).1.es
    have x4A:m.p4.A = some ⟨G 4,0,none⟩:=(HPL.out 4 (by decide)).1.eA
    have x4n:m.p4.n = n:=(HPL.out 4 (by decide)).1.en
    have x4c:m.p4.c = n:=(HPL.out 4 (by decide)).1.ec
    simp only [m1,m2,m3,m4,x0w,x0h,x0st,x0A,x0n,x0c,x1w,x1h,x1st,x1A,x1n,x1c,x2w,x2h,x2st,x2A,x2n,x2c,x3w,x3h,x3st,x3A,x3n,x3c,x4w,x4h,x4st,x4A,x4n,x4c] at h
    exact h
   have HM2:=hd_ eM2
   have hGt:∀ q,q < 5 → T8 < G q:=fun q hq => (HPL.out q hq).2.1
   have HGT:=hd_ hGt
   clear hGinj hS0 hX eR eM eM2 hGt HM8 m1 m2 m3 m4
   go_wp2_with fail
   go_loopg [10] n (fun gk s10 wr => ∃ i:Nat,i + gk = n ∧ s10 = .int .i64 i ∧ Bel w wr ∧ wr.heap[w.heap.size]? = some (.cells #[.int .i64 0,.int .i64 0,.bool false,.int .u16 0,.int .u16 0,.int .u16 0,.int .u16 0,.int .u16 0,.int .i64 0,.int .i64 0,.int .i64 0,.slice none 0 0,.int .i64 0,.int .i64 0,.int .i64 0,.slice none 0 0,.int .i64 0,.int .i64 0,.int .i64 0,.slice none 0 0,.int .i64 0,.int .i64 0,.int .i64 0,.slice none 0 0,.int .i64 0,.int .i64 0,.int .i64 0,.slice none 0 0] 46) ∧ wr.heap[T8]? = some (.cells #[.int .i64 iw,.int .i64 ih,.bool false,.int .u16 0,.int .u16 0,.int .u16 0,.int .u16 0,.int .u16 0,.int .i64 iw,.int .i64 ih,.int .i64 iw,.slice (some ⟨G 0,0,none⟩) n n,.int .i64 iw,.int .i64 ih,.int .i64 iw,.slice (some ⟨G 1,0,none⟩) n n,.int .i64 iw,.int .i64 ih,.int .i64 iw,.slice (some ⟨G 2,0,none⟩) n n,.int .i64 iw,.int .i64 ih,.int .i64 iw,.slice (some ⟨G 3,0,none⟩) n n,.int .i64 iw,.int .i64 ih,.int .i64 iw,.slice (some ⟨G 4,0,none⟩) n n] 46) ∧ PlS wr l G i 0)
   case atStart => exact ⟨0,by omega,rfl,HX.out,HR.out,HM2.out,HS0.out⟩
   case round =>
    obtain ⟨i,hgk,rfl,hX,eR,eM,hP⟩:=hrel
    clear HX HR HM2 HS0
    by_cases hi:i < n
    case neg =>
     obtain rfl:i = n:=by omega
     have hld:=img_ld eM
     have HX0:=hd_ hX
     have HP:=hd_ hP
     have HM:=hd_ eM
     clear hP hX
     go_wp2_with (first | ((with_reducible show wpList _ _ _ (⟨some 89,_,_,_,_,_⟩ :: _) _ _); refine wpList_ld rfl rfl rfl (hld) ?_) | ((with_reducible show wpList _ _ _ (⟨none,.store _ _ _,_,_,_,_⟩ :: _) _ _); refine wpList_st (n:=0) (g:=w.heap.size) (cells:=(⟨iw,ih,false,pxz,⟨iw,ih,iw,some ⟨G 0,0,none⟩,i,i,cmpL l 0⟩,⟨iw,ih,iw,some ⟨G 1,0,none⟩,i,i,cmpL l 1⟩,⟨iw,ih,iw,some ⟨G 2,0,none⟩,i,i,cmpL l 2⟩,⟨iw,ih,iw,some ⟨G 3,0,none⟩,i,i,cmpL l 3⟩,⟨iw,ih,iw,some ⟨G 4,0,none⟩,i,i,cmpL l 4⟩⟩:Img).cs) rfl rfl rfl rfl eR rfl (by kernel_rfl) (im_one _) ?_; intro w6' eR6 hU6; have hX6:=hU6.bel HX0.out (Nat.le_refl _)) | fail)
     refine bodyPost_ret (v:=.tuple #[(⟨iw,ih,false,pxz,⟨iw,ih,iw,some ⟨G 0,0,none⟩,i,i,cmpL l 0⟩,⟨iw,ih,iw,some ⟨G 1,0,none⟩,i,i,cmpL l 1⟩,⟨iw,ih,iw,some ⟨G 2,0,none⟩,i,i,cmpL l 2⟩,⟨iw,ih,iw,some ⟨G 3,0,none⟩,i,i,cmpL l 3⟩,⟨iw,ih,iw,some ⟨G 4,0,none⟩,i,i,cmpL l 4⟩⟩:Img).v,.bool true]) (results_row_tmp (fn:=Tryz.f19) rfl _ _ w.heap.size 46 (⟨iw,ih,false,pxz,⟨iw,ih,iw,some ⟨G 0,0,none⟩,i,i,cmpL l 0⟩,⟨iw,ih,iw,some ⟨G 1,0,none⟩,i,i,cmpL l 1⟩,⟨iw,ih,iw,some ⟨G 2,0,none⟩,i,i,cmpL l 2⟩,⟨iw,ih,iw,some ⟨G 3,0,none⟩,i,i,cmpL l 3⟩,⟨iw,ih,iw,some ⟨G 4,0,none⟩,i,i,cmpL l 4⟩⟩:Img).cs.toArray (0,0) _ _ rfl rfl eR6 Tryz.underlying46 rfl (by kernel_rfl)) rfl ⟨(⟨iw,ih,false,pxz,⟨iw,ih,iw,some ⟨G 0,0,none⟩,i,i,cmpL l 0⟩,⟨iw,ih,iw,some ⟨G 1,0,none⟩,i,i,cmpL l 1⟩,⟨iw,ih,iw,some ⟨G 2,0,none⟩,i,i,cmpL l 2⟩,⟨iw,ih,iw,some ⟨G 3,0,none⟩,i,i,cmpL l 3⟩,⟨iw,ih,iw,some ⟨G 4,0,none⟩,i,i,cmpL l 4⟩⟩:Img),rfl,⟨rfl,rfl,rfl,rfl,fun q hq => ?_⟩,hX6⟩
     have hpq:w6'.heap[G q]? = some (.cells (smp (cmpL l q)).toArray 27):=by
      have h:=HP.out.h q hq
      rw [if_neg (Nat.not_lt_zero _),upto_all _ _ (by rw [cmpL_len,HLEN.out]; exact Nat.le_refl _)] at h
      exact hU6.heap h (by have:=HGT.out q hq; omega)
     have hown:=own_smp (base:=w.heap.size) hpq (by rw [cmpL_len,HLEN.out]) (by have:=HGT.out q hq; omega) (by unfold maxLen; omega)
     have hq5:q = 0 ∨ q = 1 ∨ q = 2 ∨ q = 3 ∨ q = 4:=by omega
     rcases hq5 with rfl | rfl | rfl | rfl | rfl <;> exact ⟨rfl,rfl,rfl,rfl,rfl,rfl,hown⟩
    case pos =>
     have hd:decide ((i:Int) < (n:Int)) = true:=decide_eq_true (by omega)
     obtain ⟨p,hp⟩:∃ p,l[i]? = some p:=⟨l[i]'(by have:=HLEN.out; omega),List.getElem?_eq_getElem _⟩
     have HP:=hd_ hP
     have HX:=hd_ hX
     have HM:=hd_ eM
     have HR:=hd_ eR
     have HPI:=hd_ hp
     clear hX eM eR hP hp
     go_wp2_with fail
     obtain ⟨g8,rfl⟩:∃ x:Nat,x = gk:=⟨_,rfl⟩
     go_loopg [11] 3 (fun gk s11 wr => ∃ k:Nat,k + gk = 3 ∧ s11 = .int .i64 k ∧ Bel w wr ∧ wr.heap[w.heap.size]? = some (.cells #[.int .i64 0,.int .i64 0,.bool false,.int .u16 0,.int .u16 0,.int .u16 0,.int .u16 0,.int .u16 0,.int .i64 0,.int .i64 0,.int .i64 0,.slice none 0 0,.int .i64 0,.int .i64 0,.int .i64 0,.slice none 0 0,.int .i64 0,.int .i64 0,.int .i64 0,.slice none 0 0,.int .i64 0,.int .i64 0,.int .i64 0,.slice none 0 0,.int .i64 0,.int .i64 0,.int .i64 0,.slice none 0 0] 46) ∧ wr.heap[T8]? = some (.cells #[.int .i64 iw,.int .i64 ih,.bool false,.int .u16 0,.int .u16 0,.int .u16 0,.int .u16 0,.int .u16 0,.int .i64 iw,.int .i64 ih,.int .i64 iw,.slice (some ⟨G 0,0,none⟩) n n,.int .i64 iw,.int .i64 ih,.int .i64 iw,.slice (some ⟨G 1,0,none⟩) n n,.int .i64 iw,.int .i64 ih,.int .i64 iw,.slice (some ⟨G 2,0,none⟩) n n,.int .i64 iw,.int .i64 ih,.int .i64 iw,.slice (some ⟨G 3,0,none⟩) n n,.int .i64 iw,.int .i64 ih,.int .i64 iw,.slice (some ⟨G 4,0,none⟩) n n] 46) ∧ PlS wr l G i k)
     case atStart => exact ⟨0,rfl,rfl,HX.out,HR.out,HM.out,HP.out⟩
     case round =>
      obtain ⟨k,hgk3,rfl,hX,eR,eM,hP⟩:=hrel
      clear HX HR HM HP
      obtain ⟨g,off,hAe,d0,d1,d2,d3,d4⟩:=(HL.out.bel hX).px HPI.out hi
      have HAE:=hd_ hAe
      subst hAe
      by_cases hk3:k < 3
      case pos =>
       have hd3:decide ((k:Int) < 3) = true:=decide_eq_true (by omega)
       have hk:k = 0 ∨ k = 1 ∨ k = 2:=by omega
       rcases hk with rfl | rfl | rfl
       ·have qM:=fun q:Bw wr => q.h.cell (cq11 eM rfl)
        have qd:=fun q:Bw wr => q.h.cell d0
        obtain ⟨v,hv⟩:=hP.cell (by rw [HLEN.out]; exact hi) (by omega) 0 (by decide)
        have HP:=hd_ hP
        have HX:=hd_ hX
        have HM:=hd_ eM
        have HR:=hd_ eR
        clear hP hX eM eR d0 d1 d2 d3 d4
        go_upto_region 14 with fail
        refine region_btail 14 (by kernel_rfl) (by kernel_rfl) ?_
        simp only [List.take_succ_cons,List.take_zero]
        repeat (go_big_quiet_step (fail))
        refine wpQuiet_nil ?_
        rintro w6 ⟨q,rfl⟩
        simp only [List.drop_succ_cons,List.drop_zero]
        clear qM qd
        have kc:=q.h.cell hv
        have fc:=frozA ((HP.out.bel q.h).h 0 (by decide)) i
        go_wp2_with fail
        go_roundg (gk - 1)
        case measure => omega
        case rel =>
         have hg:=HGT.out 0 (by decide)
         exact ⟨1,by omega,by go_num,(HX.out.trans q.h).setCell (by have:=HX.out.size'; have:=lt_of_heap HR.out; have:=hg8; omega) _,heap_set_other _ (by have:=hg8; omega) (q.h.heap HR.out),heap_set_other _ (by omega) (q.h.heap HM.out),(HP.out.bel q.h).set HGI.out (by decide) HPI.out⟩
       ·have qM:=fun q:Bw wr => q.h.cell (cq15 eM rfl)
        have qd:=fun q:Bw wr => q.h.cell d1
        obtain ⟨v,hv⟩:=hP.cell (by rw [HLEN.out]; exact hi) (by omega) 1 (by decide)
        have HP:=hd_ hP
        have HX:=hd_ hX
        have HM:=hd_ eM
        have HR:=hd_ eR
        clear hP hX eM eR d0 d1 d2 d3 d4
        go_upto_region 14 with fail
        refine region_btail 14 (by kernel_rfl) (by kernel_rfl) ?_
        simp only [List.take_succ_cons,List.take_zero]
        repeat (go_big_quiet_step (fail))
        refine wpQuiet_nil ?_
        rintro w6 ⟨q,rfl⟩
        simp only [List.drop_succ_cons,List.drop_zero]
        clear qM qd
        have kc:=q.h.cell hv
        have fc:=frozA ((HP.out.bel q.h).h 1 (by decide)) i
        go_wp2_with fail
        go_roundg (gk - 1)
        case measure => omega
        case rel =>
         have hg:=HGT.out 1 (by decide)
         exact ⟨2,by omega,by go_num,(HX.out.trans q.h).setCell (by have:=HX.out.size'; have:=lt_of_heap HR.out; have:=hg8; omega) _,heap_set_other _ (by have:=hg8; omega) (q.h.heap HR.out),heap_set_other _ (by omega) (q.h.heap HM.out),(HP.out.bel q.h).set HGI.out (by decide) HPI.out⟩
       ·have qM:=fun q:Bw wr => q.h.cell (cq19 eM rfl)
        have qd:=fun q:Bw wr => q.h.cell d2
        obtain ⟨v,hv⟩:=hP.cell (by rw [HLEN.out]; exact hi) (by omega) 2 (by decide)
        have HP:=hd_ hP
        have HX:=hd_ hX
        have HM:=hd_ eM
        have HR:=hd_ eR
        clear hP hX eM eR d0 d1 d2 d3 d4
        go_upto_region 14 with fail
        refine region_btail 14 (by kernel_rfl) (by kernel_rfl) ?_
        simp only [List.take_succ_cons,List.take_zero]
        repeat (go_big_quiet_step (fail))
        refine wpQuiet_nil ?_
        rintro w6 ⟨q,rfl⟩
        simp only [List.drop_succ_cons,List.drop_zero]
        clear qM qd
        have kc:=q.h.cell hv
        have fc:=frozA ((HP.out.bel q.h).h 2 (by decide)) i
        go_wp2_with fail
        go_roundg (gk - 1)
        case measure => omega
        case rel =>
         have hg:=HGT.out 2 (by decide)
         exact ⟨3,by omega,by go_num,(HX.out.trans q.h).setCell (by have:=HX.out.size'; have:=lt_of_heap HR.out; have:=hg8; omega) _,heap_set_other _ (by have:=hg8; omega) (q.h.heap HR.out),heap_set_other _ (by omega) (q.h.heap HM.out),(HP.out.bel q.h).set HGI.out (by decide) HPI.out⟩
      case neg =>
       obtain rfl:k = 3:=by omega
       have eM':=eM
       go_upto_region 15 with fail
       have ng3:=HGT.out 3 (by decide)
       have ng4:=HGT.out 4 (by decide)
       have lgw:g < w.heap.size:=by
        obtain ⟨g2,off2,e2,dd,-⟩:=HL.out.px HPI.out hi
        cases e2
        exact World.block_lt_of_cell? w _ dd
       have hgg3:g ≠ G 3:=by have:=hg8; omega
       have M3:=cq23 eM rfl
       have M4:=cq27 eM rfl
       have q3:=fun (W:World) (h:Kp (G 3) wr W) => h.cell M3 (by show T8 ≠ G 3; omega)
       have q4:=fun (W:World) (h:Kp (G 3) wr W) => h.cell M4 (by show T8 ≠ G 3; omega)
       have qd3:=fun (W:World) (h:Kp (G 3) wr W) => h.cell d3 hgg3
       have qd4:=fun (W:World) (h:Kp (G 3) wr W) => h.cell d4 hgg3
       obtain ⟨v3,hv3⟩:=hP.cell (by rw [HLEN.out]; exact hi) (by omega) 3 (by decide)
       obtain ⟨v4,hv4⟩:=hP.cell (by rw [HLEN.out]; exact hi) (by omega) 4 (by decide)
       have hYd:=(Bel.refl wr).dr
       have kc3:=hYd.cell hv3
       have fc3:=frozA (hYd.heap (hP.h 3 (by decide))) i
       have g34:(G 3 = G 4) = False:=eq_false (fun e => absurd (HGI.out 3 4 (by decide) (by decide) e) (by decide))
       have g43:(G 4 = G 3) = False:=eq_false (fun e => absurd (HGI.out 4 3 (by decide) (by decide) e) (by decide))
       have HP:=hd_ hP
       have HX:=hd_ hX
       have HM:=hd_ eM
       have HR:=hd_ eR
       clear hP hX eM eR eM' d0 d1 d2 d3 d4 M3 M4
       have hS0:Kp (G 3) wr wr.drew:=Kp.of_bel hYd
       refine C_region 23 (fun W => Kp (G 3) wr W) (by kernel_rfl) ?_
       refine C_take0a (i:=0) (v:=?_) rfl hS0 (Or.inl ⟨by rfl,?_⟩) ?_
       rotate_left
       ·(intro W hW; go_simp; try with_reducible rfl)
       simp only [Act.put,lA_,l0_,lS_]
       refine C_take0a (i:=1) (v:=?_) rfl hS0 (Or.inl ⟨by rfl,?_⟩) ?_
       rotate_left
       ·(intro W hW; go_simp; try with_reducible rfl)
       simp only [Act.put,lA_,l0_,lS_]
       refine C_take0a (i:=2) (v:=?_) rfl hS0 (Or.inl ⟨by rfl,?_⟩) ?_
       rotate_left
       ·(intro W hW; go_simp; try with_reducible rfl)
       simp only [Act.put,lA_,l0_,lS_]
       refine C_takea (i:=3) (v:=?_) rfl hS0 (Or.inl ⟨by rfl,?_⟩) ?_
       rotate_left
       ·(intro W hW; (try dsimp only at hW); go_simp; try with_reducible rfl)
       simp only [Act.put,lA_,l0_,lS_]
       refine C_take0a (i:=4) (v:=?_) rfl hS0 (Or.inl ⟨by rfl,?_⟩) ?_
       rotate_left
       ·(intro W hW; go_simp; try with_reducible rfl)
       simp only [Act.put,lA_,l0_,lS_]
       refine C_take0a (i:=5) (v:=?_) rfl hS0 (Or.inl ⟨by rfl,?_⟩) ?_
       rotate_left
       ·(intro W hW; go_simp; try with_reducible rfl)
       simp only [Act.put,lA_,l0_,lS_]
       refine C_take0a (i:=6) (v:=?_) rfl hS0 (Or.inl ⟨by rfl,?_⟩) ?_
       rotate_left
       ·(intro W hW; go_simp; try with_reducible rfl)
       simp only [Act.put,lA_,l0_,lS_]
       refine C_take0a (i:=7) (v:=?_) rfl hS0 (Or.inl ⟨by rfl,?_⟩) ?_
       rotate_left
       ·(intro W hW; go_simp; try with_reducible rfl)
       simp only [Act.put,lA_,l0_,lS_]
       refine C_takea (i:=8) (v:=?_) rfl hS0 (Or.inl ⟨by rfl,?_⟩) ?_
       rotate_left
       ·(intro W hW; (try dsimp only at hW); go_simp; try with_reducible rfl)
       simp only [Act.put,lA_,l0_,lS_]
       refine C_take0a (i:=9) (v:=?_) rfl hS0 (Or.inl ⟨by rfl,?_⟩) ?_
       rotate_left
       ·(intro W hW; go_simp; try with_reducible rfl)
       simp only [Act.put,lA_,l0_,lS_]
       refine C_take0a (i:=10) (v:=?_) rfl hS0 (Or.inl ⟨by rfl,?_⟩) ?_
       rotate_left
       ·(intro W hW; go_simp; try with_reducible rfl)
       simp only [Act.put,lA_,l0_,lS_]
       refine C_take0a (i:=11) (v:=?_) rfl hS0 (Or.inl ⟨by rfl,?_⟩) ?_
       rotate_left
       ·(intro W hW; go_simp; try with_reducible rfl)
       simp only [Act.put,lA_,l0_,lS_]
       refine C_take0a (i:=12) (v:=?_) rfl hS0 (Or.inl ⟨by rfl,?_⟩) ?_
       rotate_left
       ·(intro W hW; go_simp; try with_reducible rfl)
       simp only [Act.put,lA_,l0_,lS_]
       refine C_take0a (i:=13) (v:=?_) rfl hS0 (Or.inl ⟨by rfl,?_⟩) ?_
       rotate_left
       ·(intro W hW; go_simp; try with_reducible rfl)
       simp only [Act.put,lA_,l0_,lS_]
       refine C_takea (i:=14) (v:=?_) rfl hS0 (Or.inl ⟨by rfl,?_⟩) ?_
       rotate_left
       ·(intro W hW; (try dsimp only at hW); go_simp; try with_reducible rfl)
       simp only [Act.put,lA_,l0_,lS_]
       refine C_take0a (i:=15) (v:=?_) rfl hS0 (Or.inl ⟨by rfl,?_⟩) ?_
       rotate_left
       ·(intro W hW; go_simp; try with_reducible rfl)
       simp only [Act.put,lA_,l0_,lS_]
       refine C_take0a (i:=16) (v:=?_) rfl hS0 (Or.inl ⟨by rfl,?_⟩) ?_
       rotate_left
       ·(intro W hW; go_simp; try with_reducible rfl)
       simp only [Act.put,lA_,l0_,lS_]
       refine C_take0a (i:=17) (v:=?_) rfl hS0 (Or.inl ⟨by rfl,?_⟩) ?_
       rotate_left
       ·(intro W hW; go_simp; try with_reducible rfl)
       simp only [Act.put,lA_,l0_,lS_]
       refine C_take0a (i:=18) (v:=?_) rfl hS0 (Or.inl ⟨by rfl,?_⟩) ?_
       rotate_left
       ·(intro W hW; go_simp; try with_reducible rfl)
       simp only [Act.put,lA_,l0_,lS_]
       refine C_takea (i:=19) (v:=?_) rfl hS0 (Or.inl ⟨by rfl,?_⟩) ?_
       rotate_left
       ·(intro W hW; (try dsimp only at hW); go_simp; try with_reducible rfl)
       simp only [Act.put,lA_,l0_,lS_]
       refine C_take0a (i:=20) (v:=?_) rfl hS0 (Or.inl ⟨by rfl,?_⟩) ?_
       rotate_left
       ·(intro W hW; go_simp; try with_reducible rfl)
       simp only [Act.put,lA_,l0_,lS_]
       refine C_do (i:=21) (by kernel_rfl) rfl (by rfl) fun K hK => ?_
       go_simp
       have hS1:Kp (G 3) wr (wr.drew.setCell ⟨G 3,i,none⟩ (.int .u16 p.a)):=hS0.upd (setCells_upd (G 3) [.int .u16 p.a] i wr.drew)
       refine hK.out _ _ hS1 ?_
       clear hK K
       refine C_take0a (i:=22) (v:=?_) rfl hS1 (Or.inl ⟨by rfl,?_⟩) ?_
       rotate_left
       ·(intro W hW; go_simp; try with_reducible rfl)
       simp only [Act.put,lA_,l0_,lS_]
       refine C_tail (c:=23) (g:=0) (l:=_) rfl rfl (by kernel_rfl) (by kernel_rfl) ?_
       simp only [List.drop_succ_cons,List.drop_zero]
       have hP1:=(HP.out.bel hYd).set HGI.out (by decide) HPI.out
       have fc4:=frozA (HP.out.h 4 (by decide)) i
       obtain ⟨v4b,hv4b⟩:=hP1.cell (by rw [HLEN.out]; exact hi) (by decide) 4 (by decide)
       have HP2:=hd_ (hP1.set HGI.out (by decide) HPI.out)
       clear hP1 q3 q4 qd3 qd4 kc3 fc3
       go_wp2_with fail
       go_roundg (g8 - 1)
       case measure => omega
       case rel =>
        have hwT:w.heap.size < T8:=hg8
        exact ⟨i + 1,by omega,by go_num,((HX.out.trans hYd).setCell (by omega) _).setCell (by omega) _,heap_set_other _ (by omega) (heap_set_other _ (by omega) (hYd.heap HR.out)),heap_set_other _ (by omega) (heap_set_other _ (by omega) (hYd.heap HM.out)),HP2.out.next⟩
end Go.Proofs.YtepfoelgegljbaaGreatDoor
