/- Part A20. -/
import Derived.Deep.OwnRows
import Derived.Test.YtepfoelgegljbaaGreatDoorA18
namespace Go.Proofs.YtepfoelgegljbaaGreatDoor
set_option maxRecDepth 100000
open Go.RowKit
set_option linter.unusedVariables false
def permOk (L:List Int) (n:Nat):Prop:=(∀ v ∈ L,0 ≤ v ∧ v < n) ∧ L.Nodup
def outA (L:List Int) (n i:Nat):Array Value:=(ints64 (L.take i) ++ List.replicate (n - i) (Value.int .i64 0)).toArray
def seenA (L:List Int) (n i:Nat):Array Value:=((List.range n).map fun j:Nat => Value.bool (decide ((j:Int) ∈ L.take i))).toArray
theorem outA_at {L:List Int} {n i:Nat} (hl:L.length = n) (hi:i < n):(outA L n i)[i]? = some (.int .i64 0):=by
 unfold outA ints64
 rw [List.getElem?_toArray,List.getElem?_append_right (by simp; omega),List.length_map,List.length_take,List.getElem?_replicate,if_pos (by omega)]
theorem outA_set {L:List Int} {n i:Nat} {v:Int} (x:Value) (hl:L.length = n) (hv:L[i]? = some v) (hi:i < n):((outA L n i).setIfInBounds i x).setIfInBounds i (.int .i64 v) = outA L n (i + 1):=by
 have ht:=take_snoc hv
 apply Array.ext_getElem?
 intro j
 rw [Array.getElem?_setIfInBounds]
 unfold outA ints64
 rw [ht]
 by_cases hj:i = j
 ·subst hj
  rw [if_pos rfl,if_pos (by simp; omega),List.getElem?_toArray,List.map_append,List.append_assoc,List.getElem?_append_right (by simp; omega),List.length_map,List.length_take,Nat.min_eq_left (by omega),Nat.sub_self]
  rfl
 ·rw [if_neg hj,Array.getElem?_setIfInBounds,if_neg hj,List.getElem?_toArray,List.getElem?_toArray,List.map_append,List.append_assoc]
  rcases Nat.lt_or_ge j i with h | h
  ·rw [List.getElem?_append_left (by simp; omega),List.getElem?_append_left (by simp; omega)]
  ·rw [List.getElem?_append_right (by simp; omega),List.getElem?_append_right (by simp; omega),List.getElem?_append_right (by simp; omega)]
   simp only [List.length_map,List.length_take,Nat.min_eq_left (show i ≤ L.length by omega),List.getElem?_replicate,List.length_cons,List.length_nil]
   by_cases h2:j < n
   ·rw [if_pos (by omega),if_pos (by omega)]
   ·rw [if_neg (by omega),if_neg (by omega)]
theorem outA_set1 {L:List Int} {n i:Nat} {v:Int} (hl:L.length = n) (hv:L[i]? = some v) (hi:i < n):(outA L n i).setIfInBounds i (.int .i64 v) = outA L n (i + 1):=by
 rw [← outA_set (.int .i64 v) hl hv hi]
 apply Array.ext_getElem?
 intro j
 rw [Array.getElem?_setIfInBounds,Array.getElem?_setIfInBounds,Array.getElem?_setIfInBounds]
 by_cases hj:i = j
 ·subst hj
  simp
 ·simp only [if_neg hj]
theorem seenA_at {L:List Int} {n i u:Nat} (hu:u < n):(seenA L n i)[u]? = some (.bool (decide ((u:Int) ∈ L.take i))):=by
 unfold seenA
 rw [List.getElem?_toArray,List.getElem?_map,List.getElem?_range hu]
 rfl
theorem seenA_set {L:List Int} {n i u:Nat} (hv:L[i]? = some (u:Int)) (hu:u < n):(seenA L n i).setIfInBounds u (.bool true) = seenA L n (i + 1):=by
 apply Array.ext_getElem?
 intro j
 rw [Array.getElem?_setIfInBounds]
 by_cases hj:u = j
 ·subst hj
  rw [if_pos rfl,if_pos (by simp [seenA]; omega),seenA_at hu,take_snoc hv]
  simp
 ·rw [if_neg hj]
  rcases Nat.lt_or_ge j n with h | h
  ·rw [seenA_at h,seenA_at h,take_snoc hv]
   have:(decide ((j:Int) ∈ L.take i)) = decide ((j:Int) ∈ L.take i ++ [(u:Int)]):=by
    rw [decide_eq_decide,List.mem_append,List.mem_singleton]
    exact ⟨.inl,fun h => h.elim id fun e => absurd (by omega) hj⟩
   rw [this]
  ·unfold seenA
   simp [h]
theorem made_one (z:Value) (n:Nat):madeCells #[z] n = (List.replicate n z).toArray:=by
 rw [← toList_madeCells_one]
theorem outA_zero (L:List Int) (n:Nat):madeCells #[.int .i64 0] n = outA L n 0:=by
 rw [made_one]
 unfold outA ints64
 rw [List.take_zero,List.map_nil,List.nil_append,Nat.sub_zero]
theorem seenA_zero (L:List Int) (n:Nat):madeCells #[.bool false] n = seenA L n 0:=by
 rw [made_one]
 unfold seenA
 apply Array.ext_getElem?
 intro j
 rw [List.getElem?_toArray,List.getElem?_toArray,List.getElem?_replicate,List.getElem?_map]
 rcases Nat.lt_or_ge j n with h | h
 ·rw [if_pos h,List.getElem?_range h]
  simp
 ·rw [if_neg (by omega),List.getElem?_eq_none (by simpa using h)]
  rfl
theorem tlVOrd0 {p:Prop} (h:p:=by
  have HE:=hd_ e1
  have HX:=hd_ hX
  clear e1 e2 hX
  go_wp2_with fail
  obtain rfl:i = n:=by omega
  go_ret2
  have hP:permOk L i:=by
   have h:=HP.out
   rwa [List.take_of_length_le (by rw [HLL.out]; omega)] at h
  refine ⟨fun _ => ⟨_,rfl,by unfold ints64; rw [List.length_map,HLL.out]; omega,.inr ⟨w.heap.size,_,_,rfl,Nat.le_refl _,HE.out,Nat.le_refl _,by unfold maxLen; omega,?_,?_⟩⟩,fun h => absurd hP h,HX.out⟩
  ·simp [outA,ints64,HLL.out]
  ·have h2:=HLL.out
   rw [Nat.mul_one]
   unfold outA ints64
   rw [List.take_of_length_le (l:=L) (by omega),Nat.sub_self,List.replicate_zero,List.append_nil,List.take_of_length_le (by simp; omega)]):p:=h
theorem tlVOrd2 {p:Prop} (h:p:=by
  exact ⟨fun x hx => (List.mem_append.1 hx).elim (HP.out.1 x) fun hx => by simp at hx; omega,List.nodup_append.2 ⟨HP.out.2,by simp,fun a ha b hb => by simp at hb; subst hb; rintro rfl; exact HNM.out ha⟩⟩):p:=h
set_option maxHeartbeats 4000000 in
theorem order_none (L:List Int) (n:Nat) (n0:0 < n) (n1:n ≤ 1000) (hl:L.length = n) (A:Option Addr) (c:Nat) (hL:permOk L n) (hi:∀ i:Nat,i < n → L[i]? = some (i:Int)) (w:World)  :
  Calls Tryz.prog 52 #[.slice A 0 c,.int .i64 n] w fun e w' => (permOk L n → ∃ v,e = .returned (.tuple #[v,.bool true]) ∧ w'.ownsRow w.heap.size 3 1 v n (ints64 L)) ∧ (¬ permOk L n → e = .returned (.tuple #[.slice none 0 0,.bool false])) ∧ Bel w w':=by
 have hmk1:=fun w => run_make_row' (P:=Tryz.prog) 22 3 (.int .i64 0) 8 Tryz.underlying22 (by kernel_rfl) rfl .i64 .i64 n (by omega) (by omega) w
 have hmk2:=fun w => run_make_row' (P:=Tryz.prog) 117 4 (.bool false) 1 Tryz.underlying117 (by kernel_rfl) rfl .i64 .i64 n (by omega) (by omega) w
 have HLL:=hd_ hl
 have HPL:=hd_ hL
 have HI:=hd_ hi
 have nz:((n:Int) == 0) = false:=beq_eq_false_iff_ne.2 (by omega)
 have nz2:((n:Int) != 0) = true:=by rw [bne,nz]; rfl
 clear hl hL hi
 go_enter Tryz.func52,Tryz.ntmps52
 go_wp2_with fail
 go_loopg [32] n (fun gk s32 wr => ∃ i:Nat,i + gk = n ∧ s32 = .int .i64 i ∧ Bel w wr ∧ wr.heap[w.heap.size]? = some (.cells (outA L n i) 3) ∧ wr.heap[w.heap.size + 1]? = some (.cells (seenA L n i) 4) ∧ permOk (L.take i) n)
 case atStart => exact ⟨0,by omega,rfl,((Bel.refl w).al _).al _,(by rw [← outA_zero L]; exact at_old (at_new rfl)),(by rw [← seenA_zero L]; exact at_new (by simp)),⟨fun v hv => by simp at hv,by simp⟩⟩
 case round =>
  obtain ⟨i,hgk,rfl,hX,e1,e2,hp⟩:=hrel
  have HP:=hd_ hp
  clear hp hmk1 hmk2
  have z2:=lt_of_heap e2
  by_cases hlt:i < n
  case neg =>
   exact tlVOrd0
  case pos =>
   obtain ⟨v,ev⟩:∃ v,L[i]? = some v:=⟨L[i]'(by have:=HLL.out; omega),List.getElem?_eq_getElem _⟩
   have k1:=cell_of e1 (outA_at HLL.out hlt)
   have f1:=frozA e1 i
   have f2:∀ j,wr.frozen? ⟨w.heap.size + 1,j,none⟩ = false:=fun j => frozA e2 j
   have hne:(w.heap.size = w.heap.size + 1) = False:=eq_false (by omega)
   have hne2:(w.heap.size + 1 = w.heap.size) = False:=eq_false (by omega)
   obtain rfl:v = (i:Int):=Option.some.inj (ev.symm.trans (HI.out i hlt))
   obtain ⟨u,hu⟩:∃ u:Nat,u = i:=⟨_,rfl⟩
   have hun:i < n:=hlt
   have hd0:decide ((i:Int) < 0) = false:=decide_eq_false (by omega)
   have hd1:decide ((n:Int) ≤ (i:Int)) = false:=decide_eq_false (by omega)
   have hnm:¬ (i:Int) ∈ L.take i:=fun hm => by
    have hd:=HPL.out.2
    rw [← List.take_append_drop i L] at hd
    exact (List.nodup_append.1 hd).2.2 _ hm (i:Int) (List.mem_of_getElem? (i:=0) (by rw [List.getElem?_drop]; exact ev)) rfl
   have k2:=cell_of e2 (seenA_at (L:=L) (i:=i) hun)
   rw [decide_eq_false hnm] at k2
   have HNM:=hd_ hnm
   clear hnm hu
   all_goals
    have HX:=hd_ hX
    have E1:=hd_ e1
    have E2:=hd_ e2
    have EV:=hd_ ev
    clear hX e1 e2 ev
    go_wp2_with fail
    go_roundg (gk - 1)
    case measure => omega
    case rel =>
     refine ⟨i + 1,by omega,by go_num,?_,?_,?_,?_⟩
     ·repeat (first | exact HX.out | refine Bel.setCell ?_ (by omega) _)
     ·have h:=heap_set (i:=i) (.int .i64 (i:Int)) E1.out
      rw [outA_set1 HLL.out EV.out hlt] at h
      exact heap_set_other _ (by omega) h
     ·have h:=heap_set (i:=i) (.bool true) (heap_set_other (b:=w.heap.size) (i:=i) (.int .i64 (i:Int)) (by omega) E2.out)
      rw [seenA_set EV.out hun] at h
      exact h
     ·rw [take_snoc EV.out]
      exact tlVOrd2
theorem tlVOrd1 {p:Prop} (h:p:=by
  go_wp2_with fail
  go_ret2
  refine ⟨fun h => absurd h HB.out,fun _ => rfl,?_⟩
  repeat (first | exact HX.out | refine Bel.setCell ?_ (by omega) _)):p:=h
set_option maxHeartbeats 4000000 in
theorem order_list (L:List Int) (n:Nat) (n0:0 < n) (n1:n ≤ 1000) (hl:L.length = n) (A:Option Addr) (c:Nat) (w:World) (h:Sl w 1 n A (ints64 L)) :
  Calls Tryz.prog 52 #[.slice A n c,.int .i64 n] w fun e w' => (permOk L n → ∃ v,e = .returned (.tuple #[v,.bool true]) ∧ w'.ownsRow w.heap.size 3 1 v n (ints64 L)) ∧ (¬ permOk L n → e = .returned (.tuple #[.slice none 0 0,.bool false])) ∧ Bel w w':=by
 have hmk1:=fun w => run_make_row' (P:=Tryz.prog) 22 3 (.int .i64 0) 8 Tryz.underlying22 (by kernel_rfl) rfl .i64 .i64 n (by omega) (by omega) w
 have hmk2:=fun w => run_make_row' (P:=Tryz.prog) 117 4 (.bool false) 1 Tryz.underlying117 (by kernel_rfl) rfl .i64 .i64 n (by omega) (by omega) w
 have HLL:=hd_ hl
 have HS:=hd_ h
 have nz:((n:Int) == 0) = false:=beq_eq_false_iff_ne.2 (by omega)
 have nz2:((n:Int) != 0) = true:=by rw [bne,nz]; rfl
 clear hl h
 go_enter Tryz.func52,Tryz.ntmps52
 go_wp2_with fail
 go_loopg [32] n (fun gk s32 wr => ∃ i:Nat,i + gk = n ∧ s32 = .int .i64 i ∧ Bel w wr ∧ wr.heap[w.heap.size]? = some (.cells (outA L n i) 3) ∧ wr.heap[w.heap.size + 1]? = some (.cells (seenA L n i) 4) ∧ permOk (L.take i) n)
 case atStart => exact ⟨0,by omega,rfl,((Bel.refl w).al _).al _,(by rw [← outA_zero L]; exact at_old (at_new rfl)),(by rw [← seenA_zero L]; exact at_new (by simp)),⟨fun v hv => by simp at hv,by simp⟩⟩
 case round =>
  obtain ⟨i,hgk,rfl,hX,e1,e2,hp⟩:=hrel
  have HP:=hd_ hp
  clear hp hmk1 hmk2
  have z2:=lt_of_heap e2
  by_cases hlt:i < n
  case neg =>
   exact tlVOrd0
  case pos =>
   obtain ⟨v,ev⟩:∃ v,L[i]? = some v:=⟨L[i]'(by have:=HLL.out; omega),List.getElem?_eq_getElem _⟩
   have k1:=cell_of e1 (outA_at HLL.out hlt)
   have f1:=frozA e1 i
   have f2:∀ j,wr.frozen? ⟨w.heap.size + 1,j,none⟩ = false:=fun j => frozA e2 j
   have hne:(w.heap.size = w.heap.size + 1) = False:=eq_false (by omega)
   have hne2:(w.heap.size + 1 = w.heap.size) = False:=eq_false (by omega)
   obtain ⟨g,off,rfl,d0⟩:=(HS.out.bel hX).int ev hlt
   have lg:g < w.heap.size:=by
    obtain ⟨g',off',ee,hc⟩:=HS.out.2 n0
    cases ee
    exact World.block_lt_of_cell? w _ (hc 0 _ (by unfold ints64; rw [List.getElem?_map,List.getElem?_eq_getElem (by have:=HLL.out; omega)]; rfl))
   have hg1:(w.heap.size = g) = False:=eq_false (by omega)
   have hg2:(g = w.heap.size) = False:=eq_false (by omega)
   have hp0:(0:Int) < n:=by omega
   by_cases hv0:v < 0
   case pos =>
    have hd0:decide (v < 0) = true:=decide_eq_true hv0
    have HB:=hd_ (show ¬ permOk L n from fun h => by have:=(h.1 v (List.mem_of_getElem? ev)).1; omega)
    have HX:=hd_ hX
    clear hX e1 e2 ev
    exact tlVOrd1
   obtain ⟨u,rfl⟩:∃ u:Nat,v = (u:Int):=⟨v.toNat,by omega⟩
   have hd0:decide ((u:Int) < 0) = false:=decide_eq_false (by omega)
   by_cases hun:u < n
   case neg =>
    have hd1:decide ((n:Int) ≤ (u:Int)) = true:=decide_eq_true (by omega)
    have HB:=hd_ (show ¬ permOk L n from fun h => by have:=(h.1 _ (List.mem_of_getElem? ev)).2; omega)
    have HX:=hd_ hX
    clear hX e1 e2 ev
    exact tlVOrd1
   have hd1:decide ((n:Int) ≤ (u:Int)) = false:=decide_eq_false (by omega)
   have k2:=cell_of e2 (seenA_at (L:=L) (i:=i) hun)
   by_cases hnm:(u:Int) ∈ L.take i
   case pos =>
    have HB:=hd_ (show ¬ permOk L n from fun h => by
     have hd:=h.2
     rw [← List.take_append_drop i L] at hd
     refine (List.nodup_append.1 hd).2.2 _ hnm (u:Int) ?_ rfl
     exact List.mem_of_getElem? (i:=0) (by rw [List.getElem?_drop]; exact ev))
    rw [decide_eq_true hnm] at k2
    have HX:=hd_ hX
    clear hX e1 e2 ev hnm
    exact tlVOrd1
   case neg =>
    rw [decide_eq_false hnm] at k2
    have HNM:=hd_ hnm
    clear hnm
    have HX:=hd_ hX
    have E1:=hd_ e1
    have E2:=hd_ e2
    have EV:=hd_ ev
    clear hX e1 e2 ev
    go_wp2_with fail
    go_roundg (gk - 1)
    case measure => omega
    case rel =>
     refine ⟨i + 1,by omega,by go_num,?_,?_,?_,?_⟩
     ·repeat (first | exact HX.out | refine Bel.setCell ?_ (by omega) _)
     ·have h:=heap_set (i:=i) (.int .i64 (u:Int)) (heap_set (i:=i) (.int .i64 (i:Int)) E1.out)
      rw [outA_set _ HLL.out EV.out hlt] at h
      exact heap_set_other _ (by omega) h
     ·have h:=heap_set (i:=u) (.bool true) (heap_set_other (b:=w.heap.size) (i:=i) (.int .i64 (u:Int)) (by omega) (heap_set_other (b:=w.heap.size) (i:=i) (.int .i64 (i:Int)) (by omega) E2.out))
      rw [seenA_set EV.out hun] at h
      exact h
     ·rw [take_snoc EV.out]
      exact tlVOrd2
set_option maxHeartbeats 2000000 in
theorem order_len (on n:Nat) (n0:0 < n) (n1:n ≤ 1000) (o0:0 < on) (o1:on ≤ 1000) (hne:on ≠ n) (A:Option Addr) (c:Nat) (w:World) :
  Calls Tryz.prog 52 #[.slice A on c,.int .i64 n] w fun e w' => e = .returned (.tuple #[.slice none 0 0,.bool false]) ∧ Bel w w':=by
 have nz:((on:Int) == 0) = false:=beq_eq_false_iff_ne.2 (by omega)
 have nz2:((on:Int) != 0) = true:=by rw [bne,nz]; rfl
 have mz:((on:Int) == n) = false:=beq_eq_false_iff_ne.2 (by omega)
 have mz2:((on:Int) != n) = true:=by rw [bne,mz]; rfl
 have d1:decide ((n:Int) < 0) = false:=decide_eq_false (by omega)
 have d2:decide (16777216 < (n:Int)) = false:=decide_eq_false (by omega)
 go_enter Tryz.func52,Tryz.ntmps52
 go_wp2_with fail
 go_ret2
 exact ⟨rfl,Bel.refl w⟩
theorem range_perm (n:Nat):permOk ((List.range n).map (fun i:Nat => (i:Int))) n:=by
 refine ⟨fun v hv => ?_,?_⟩
 ·obtain ⟨i,hi,rfl⟩:=List.mem_map.1 hv
  have:=List.mem_range.1 hi
  omega
 ·rw [List.nodup_iff_pairwise_ne,List.pairwise_map]
  exact (List.nodup_range (n:=n)).imp fun h => by omega
theorem order_call (l:List Int) (on n:Nat) (n0:0 < n) (n1:n ≤ 1000) (o1:on ≤ 1000) (hl:l.length = on) (A:Option Addr) (c:Nat) (w:World) (h:Sl w 1 on A (ints64 l)) :
  Calls Tryz.prog 52 #[.slice A on c,.int .i64 n] w fun e w' => (orderOk l n → ∃ v,e = .returned (.tuple #[v,.bool true]) ∧ w'.ownsRow w.heap.size 3 1 v n (ints64 (orderF l n))) ∧ (¬ orderOk l n → e = .returned (.tuple #[.slice none 0 0,.bool false])) ∧ Bel w w':=by
 unfold orderOk orderF
 by_cases hz:l.length = 0
 ·obtain rfl:on = 0:=by omega
  rw [if_pos hz]
  have hp:=range_perm n
  refine (order_none ((List.range n).map (fun i:Nat => (i:Int))) n n0 n1 (by simp) A c hp (fun i hi => by rw [List.getElem?_map,List.getElem?_range hi]; rfl) w).mono ?_
  rintro e w' ⟨h1,h2,h3⟩
  exact ⟨fun _ => h1 hp,fun hn => absurd (.inl hz) hn,h3⟩
 ·rw [if_neg hz]
  by_cases hn:on = n
  ·subst hn
   refine (order_list l on n0 n1 hl A c w h).mono ?_
   rintro e w' ⟨h1,h2,h3⟩
   exact ⟨fun hk => h1 (hk.elim (fun h => absurd h hz) fun h => h.2),fun hk => h2 fun hp => hk (.inr ⟨hl,hp⟩),h3⟩
  ·refine (order_len on n n0 n1 (by omega) o1 hn A c w).mono ?_
   rintro e w' ⟨h1,h2⟩
   exact ⟨fun hk => absurd (hk.elim (fun h => absurd h hz) fun h => by omega) (fun h:on = n => hn h),fun _ => h1,h2⟩
end Go.Proofs.YtepfoelgegljbaaGreatDoor
