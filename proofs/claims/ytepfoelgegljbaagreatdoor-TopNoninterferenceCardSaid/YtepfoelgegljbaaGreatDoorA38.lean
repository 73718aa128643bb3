/- Part A38. -/
import Derived.Test.YtepfoelgegljbaaGreatDoorA30
namespace Go.Proofs.YtepfoelgegljbaaGreatDoor
set_option maxRecDepth 100000
open Go.RowKit
set_option linter.unusedVariables false
set_option linter.unusedSimpArgs false
def idL (n:Nat):List Int:=(List.range n).map fun i:Nat => (i:Int)
theorem idL_len (n:Nat):(idL n).length = n:=by unfold idL; simp
theorem idL_get {n i:Nat} (h:i < n):(idL n)[i]? = some (i:Int):=by unfold idL; rw [List.getElem?_map,List.getElem?_range h]; rfl
theorem idL_nodup (n:Nat):(idL n).Nodup:=by
 unfold idL
 refine List.Pairwise.map _ (fun a b h => ?_) List.nodup_range
 omega
theorem perm_ok {ol:List Int} {n:Nat} (h:ol.Perm (idL n)):orderOk ol n:=by
 refine .inr ⟨by rw [h.length_eq,idL_len],fun v hv => ?_,h.nodup_iff.2 (idL_nodup n)⟩
 have hm:=h.mem_iff.1 hv
 unfold idL at hm
 obtain ⟨i,hi,rfl⟩:=List.mem_map.1 hm
 have:=List.mem_range.1 hi
 omega
theorem perm_pick {out rest:List Int} {n k:Nat} {v:Int} (h:(out ++ rest).Perm (idL n)) (hk:rest[k]? = some v):((out ++ [v]) ++ (rest.take k ++ rest.drop (k + 1))).Perm (idL n):=by
 refine List.Perm.trans ?_ h
 have e:rest = rest.take k ++ v :: rest.drop (k + 1):=by
  have hlt:=(List.getElem?_eq_some_iff.1 hk).1
  have he:=(List.getElem?_eq_some_iff.1 hk).2
  have h2:=List.take_append_drop k rest
  rw [List.drop_eq_getElem_cons hlt,he] at h2
  exact h2.symm
 rw [List.append_assoc]
 refine List.Perm.append_left out ?_
 rw [List.singleton_append]
 refine List.Perm.trans ?_ (List.Perm.of_eq e.symm)
 exact List.perm_middle.symm
theorem in_one (l:List Int):∀ u ∈ ints64 l,u.oneCell' = true:=by
 intro u hu
 unfold ints64 at hu
 obtain ⟨p,-,rfl⟩:=List.mem_map.1 hu
 rfl
theorem ints_append (a b:List Int):ints64 (a ++ b) = ints64 a ++ ints64 b:=by unfold ints64; rw [List.map_append]
theorem ints_len (a:List Int):(ints64 a).length = a.length:=by unfold ints64; rw [List.length_map]
theorem tlWPerm0 {p:Prop} (h:p:=by
  intro v7 W7 hown7 hgr7 _
  refine hKK.out _ _ ?_
  clear hKK KK
  have hS7:Bel w5 W7:=hS6.grown hgr7 (fun k h => (hown6.lt k h).1)
  have H7:=hd_ (And.intro hS7 hown7)
  clear hS7 hown7 hgr7 hgr6 hown6 hS6 hYd
  refine any_of_C (c:=9) (S:=fun _ => True) _ _ _ _ ?_
  refine C_tail (c:=9) (g:=0) (l:=_) rfl rfl (by kernel_rfl) (by kernel_rfl) ?_
  simp only [List.drop_succ_cons,List.drop_zero]
  go_wp2_with fail
  go_roundg (gk - 1)
  case measure => omega
  case rel =>
   have hcnt:0 + K + (gk - K1) = gk - 1:=by have:=HK1.out; omega
   have hro:=own_base H7.out.2 HX5.out.size'
   rw [hcnt] at hro
   refine ⟨j + 1,out ++ [rv],rest.take K ++ rest.drop K1,by omega,by go_num,by simp [hlo],?_,by rw [HK1.out]; exact HPP.out,HX5.out.trans H7.out.1,by rw [ints_append]; simpa using hro,?_,fun k hk hk' => ?_⟩
   ·rw [List.length_append,List.length_take,List.length_drop,HRL.out]
    have:=HK1.out
    omega
   ·rw [ints_append]
    exact own_ext HOW5.out H7.out.1
   ·have h1:=(H7.out.2.lt k hk).1
    have h2:=(HOW5.out.lt k hk').2
    omega):p:=h
theorem tlWPerm1 {p:Prop} (h:p:=by
  intro q u hq
  have hqK:q < K:=by have:=(List.getElem?_eq_some_iff.1 hq).1; rw [ints_len,List.length_take] at this; omega
  rw [Addr.add_mid,Nat.zero_add,(own_ext HR5.out hYd).cellAt q (by omega)]
  unfold ints64 at hq ⊢
  rw [List.map_take,List.getElem?_take,if_pos hqK] at hq
  exact hq):p:=h
set_option maxHeartbeats 8000000 in
theorem gperm_ex (l:List Int) (on:Nat) (A:Option Addr) (c:Nat) (n:Nat) (n1:1 ≤ n) (n2:n ≤ 25) (w:World) (h:Sl w 1 on A (ints64 l)) (hb:∀ v ∈ l,-9223372036854775808 ≤ v ∧ v ≤ 9223372036854775807) :
  Calls Tryz.prog 24 #[.slice A on c,.int .i64 n] w fun e w' => ∃ v ol,e = .returned v ∧ w'.ownsRow w.heap.size 3 1 v ol.length (ints64 ol) ∧ orderOk ol n ∧ Bel w w':=by
 obtain ⟨i0,hi,hz0,hz1,hz2⟩:=info_parts info_int
 rcases Nat.eq_zero_or_pos on with hon | hon
 ·have k0:((on:Int) == 0) = true:=by simp; omega
  clear h hb hon
  go_enter Tryz.func24,Tryz.ntmps24
  go_wp2_with fail
  go_returns
  exact ⟨_,[],rfl,World.ownsRow_nil _ _ _ _,.inl rfl,Bel.refl w⟩
 ·have k0:((on:Int) == 0) = false:=by simp; omega
  have k1:decide ((64:Int) < (n:Int)) = false:=decide_eq_false (by omega)
  have hmk1:=run_make_row' (P:=Tryz.prog) 22 3 (.int .i64 0) 8 Tryz.underlying22 (by kernel_rfl) rfl .i64 .i64 n (by omega) (by omega) w
  have HA:=hd_ (fun (i:Nat) (hi:i ≤ 1000) (W:World) (hb':Bel w W) => genAt_ex l on A c i hi W (h.bel hb') hb)
  have hM:=hd_ (fun (x k:Int) (h0:1 ≤ k) (h1:k ≤ 4611686018427387903) (W:World) => mod_call x k W h0 h1)
  clear h hb
  go_enter Tryz.func24,Tryz.ntmps24
  go_wp2_with fail
  go_loopg [6] n (fun gk s6 wr => ∃ i:Nat,i + gk = n ∧ s6 = .int .i64 i ∧ Bel w wr ∧ wr.heap[w.heap.size]? = some (.cells (ints64 (upto 0 (idL n) i)).toArray 3))
  case atStart =>
   refine ⟨0,by omega,rfl,(Bel.refl w).al _,?_⟩
   rw [upto_zero,idL_len]
   refine (at_new rfl).trans ?_
   rw [made_one]
   simp [ints64]
  case round =>
   obtain ⟨i,hgk,rfl,hX,eQ⟩:=hrel
   clear hmk1 k0 k1
   by_cases hlt:i < n
   case pos =>
    have hd:decide ((i:Int) < (n:Int)) = true:=decide_eq_true (by omega)
    have hl:i < (upto 0 (idL n) i).length:=by
     have:=idL_len n
     unfold upto
     rw [List.length_append,List.length_take,List.length_replicate]
     omega
    have kQ:=cell_of eQ (ints_at (List.getElem?_eq_getElem hl))
    have fQ:=frozA eQ
    have HQ:=hd_ eQ
    have HX:=hd_ hX
    clear eQ hX
    go_wp2_with fail
    go_roundg (gk - 1)
    case measure => omega
    case rel =>
     have h:=heap_set (i:=i) (.int .i64 (i:Int)) HQ.out
     rw [ints_set,upto_set _ _ _ _ (idL_get hlt)] at h
     exact ⟨i + 1,by omega,by go_num,HX.out.setCell (Nat.le_refl _) _,h⟩
   case neg =>
    obtain rfl:i = n:=by omega
    have hd:decide ((i:Int) < (i:Int)) = false:=decide_eq_false (by omega)
    rw [upto_all _ _ (by rw [idL_len]; exact Nat.le_refl _)] at eQ
    have HOWN:=hd_ (own_ints (base:=w.heap.size) eQ (idL_len i) (Nat.le_refl _) (by unfold maxLen; omega))
    have HX:=hd_ hX
    clear eQ hX
    go_wp2_with fail
    go_loopg [5,7,8] i (fun gk s5 s7 s8 wr => ∃ (j:Nat) (out rest:List Int),j + gk = i ∧ s8 = .int .i64 j ∧ out.length = j ∧ rest.length = gk ∧ (out ++ rest).Perm (idL i) ∧ Bel w wr ∧ wr.ownsRow w.heap.size 3 1 s5 gk (ints64 rest) ∧ wr.ownsRow w.heap.size 3 1 s7 j (ints64 out) ∧ (∀ k,s5.ownBlock = some k → s7.ownBlock ≠ some k))
    case atStart => exact ⟨0,[],idL i,by omega,rfl,rfl,idL_len i,List.Perm.refl _,HX.out,HOWN.out,World.ownsRow_nil _ _ _ _,fun k _ h => by simp [Value.ownBlock] at h⟩
    case round =>
     obtain ⟨j,out,rest,hgk,rfl,hlo,hlr,hp,hX,hr,ho,hne⟩:=hrel
     clear HX HOWN
     by_cases hlt:0 < gk
     case neg =>
      obtain rfl:gk = 0:=by omega
      obtain ⟨A5,c5,rfl,-⟩:=own_sl hr
      obtain ⟨A7,c7,rfl,-⟩:=own_sl ho
      have HO:=hd_ ho
      have HX:=hd_ hX
      have HP:=hd_ hp
      clear ho hr hX hp
      go_wp2_with fail
      go_returns
      obtain rfl:rest = []:=List.length_eq_zero_iff.1 hlr
      have hp:=HP.out
      rw [List.append_nil] at hp
      exact ⟨_,out,rfl,by rw [hlo]; exact HO.out,perm_ok hp,HX.out⟩
     case pos =>
      obtain ⟨g5,c5,rfl,hg5,hg5s,hcap5⟩:=own_at hr hlt (by decide)
      obtain ⟨A7,c7,rfl,-⟩:=own_sl ho
      have kd:decide ((0:Int) < (gk:Int)) = true:=decide_eq_true (by omega)
      have HO:=hd_ ho
      have HRR:=hd_ hr
      have HX:=hd_ hX
      have HP:=hd_ hp
      have HAJ:=hd_ (HA.out j (by omega) wr hX)
      clear ho hr hX hp
      go_upto_region 13 with (first | (go_at_call 45; (with_reducible refine HAJ.out.mono ?_); rintro e w9 ⟨v9,rfl,rfl⟩) | (go_at_call 8; (with_reducible refine (hM.out _ _ (by omega) (by omega) _).mono ?_); rintro e w9 ⟨rfl,rfl⟩) | fail)
      have m0:0 ≤ v9 % (gk:Int):=Int.emod_nonneg _ (by omega)
      have m1:v9 % (gk:Int) < gk:=Int.emod_lt_of_pos _ (by omega)
      obtain ⟨K,hK⟩:∃ K:Nat,v9 % (gk:Int) = (K:Int):=⟨(v9 % (gk:Int)).toNat,by omega⟩
      rw [hK]
      rw [hK] at m0 m1
      have hKg:K < gk:=by omega
      obtain ⟨rv,hrv⟩:∃ rv,rest[K]? = some rv:=⟨_,List.getElem?_eq_getElem (by rw [hlr]; exact hKg)⟩
      have d0:=in_cell HRR.out hrv hKg
      have HPP:=hd_ (perm_pick HP.out hrv)
      have hob:Value.ownBlock (.slice A7 j c7) ≠ some g5:=hne g5 rfl
      have HX0:=hd_ HX.out
      have hsz0:=HX0.out.size'
      clear hrv hK m0 m1 hne HX
      go_upto_region 14 with (first | (at_builtin; refine wpList_append_own _ rfl _ _ 22 rfl w.heap.size 3 i0 (.int .i64 0) 1 8 Tryz.underlying22 hi hz0 hz1 hz2 rfl (by decide) _ _ _ rfl (own_ext HO.out ((Bel.refl _).al _)) ⟨wr.heap.size,0,none⟩ 1 1 [.int .i64 rv] rfl rfl ?ca ?cb ?cc ?cd ?ce ?_) | fail)
      case ca => exact new_row wr [.int .i64 rv] _
      case cb => intro u hu; simp at hu; subst hu; rfl
      case cc => unfold maxLen; omega
      case cd => omega
      case ce => simp; omega
      intro v5 w5 hown5 hgrow5 _
      have hr5:w5.ownsRow w.heap.size 3 1 (.slice (some ⟨g5,0,none⟩) gk c5) gk (ints64 rest):=by
       have h1:=own_ext HRR.out ((Bel.refl wr).al (.cells #[.int .i64 rv] 3))
       refine ⟨h1.1,h1.2.imp id ?_⟩
       rintro ⟨g,cap,cur,e1,a2,a3,r⟩
       cases e1
       exact ⟨g5,c5,cur,rfl,a2,(hgrow5.block g5 (lt_of_heap a3) (fun e => hob e.symm)).trans a3,r⟩
      have hX5:Bel w w5:=HX0.out.app (Nat.le_refl _) HO.out hgrow5
      have HOW5:=hd_ hown5
      have HR5:=hd_ hr5
      have HX5:=hd_ hX5
      clear d0 hgrow5 hown5 hr5 hX5 hob HX0 HO HRR hsz0
      go_upto_region 14 with fail
      have hYd:=(Bel.refl w5).dr
      obtain ⟨K1,hK1⟩:∃ K1,K1 = K + 1:=⟨_,rfl⟩
      have hw1:IntKind.i64.wrap ((K:Int) + 1) = (K1:Int):=by rw [show (K:Int) + 1 = (K1:Int) by omega]; exact wrap_i64 _ (by omega) (by omega)
      have hk1:K ≤ gk:=by omega
      have hk2:K1 ≤ gk:=by omega
      have hk4:K1 ≤ c5:=by omega
      have hk3:K ≤ c5:=by omega
      have HK1:=hd_ hK1
      have HRL:=hd_ hlr
      clear hK1
      by_cases hc:c5 = K1
      ·have HGK:=hd_ (show gk = K1 by omega)
       have hcT:(c5 = K1) = True:=eq_true hc
       clear hc
       refine C_region 8 (fun W => Bel w5 W) (by kernel_rfl) ?_
       refine C_take0a (i:=0) (v:=?_) rfl hYd (Or.inl ⟨by rfl,?_⟩) ?_
       rotate_left
       ·(intro W hW; go_simp; try with_reducible rfl)
       simp only [Act.put,lA_,l0_,lS_]
       refine C_take0a (i:=1) (v:=?_) rfl hYd (Or.inl ⟨by rfl,?_⟩) ?_
       rotate_left
       ·(intro W hW; go_simp; try with_reducible rfl)
       simp only [Act.put,lA_,l0_,lS_]
       refine C_take0a (i:=2) (v:=?_) rfl hYd (Or.inl ⟨by rfl,?_⟩) ?_
       rotate_left
       ·(intro W hW; go_simp; try with_reducible rfl)
       simp only [Act.put,lA_,l0_,lS_]
       refine C_take0a (i:=4) (v:=?_) rfl hYd (Or.inl ⟨by rfl,?_⟩) ?_
       rotate_left
       ·(intro W hW; go_simp; try with_reducible rfl)
       simp only [Act.put,lA_,l0_,lS_]
       refine C_take0a (i:=5) (v:=?_) rfl hYd (Or.inl ⟨by rfl,?_⟩) ?_
       rotate_left
       ·(intro W hW; go_simp; try with_reducible rfl)
       simp only [Act.put,lA_,l0_,lS_]
       refine C_take0a (i:=6) (v:=?_) rfl hYd (Or.inl ⟨by rfl,?_⟩) ?_
       rotate_left
       ·(intro W hW; go_simp; try with_reducible rfl)
       simp only [Act.put,lA_,l0_,lS_]
       refine C_take0a (i:=7) (v:=?_) rfl hYd (Or.inl ⟨by rfl,?_⟩) ?_
       rotate_left
       ·(intro W hW; go_simp; try with_reducible rfl)
       simp only [Act.put,lA_,l0_,lS_]
       refine C_do (i:=3) (by kernel_rfl) rfl (by rfl) fun KK hKK => ?_
       simp only [List.getElem_toArray,List.getElem_cons_succ,List.getElem_cons_zero,Act.put,lA_,l0_,lS_]
       refine wp_append_own _ (.const (.slice none 0 0)) (.tmp 48) 22 rfl w5.heap.size 3 i0 (.int .i64 0) 1 8 Tryz.underlying22 hi hz0 hz1 hz2 rfl (by decide) (.slice none 0 0) 0 [] rfl (World.ownsRow_nil _ _ _ _) ⟨g5,0,none⟩ K c5 (ints64 (rest.take K)) rfl ?paa ?pab (in_one _) ?pac ?pad ?pae ?_
       case paa => rw [ints_len,List.length_take,HRL.out]; omega
       case pab =>
        exact tlWPerm1
       case pac => unfold maxLen; omega
       case pad => omega
       case pae => exact hYd.size'
       intro v6 W6 hown6 hgr6 _
       have hS6:Bel w5 W6:=hYd.grown hgr6 (fun k h => absurd h (by simp [Value.ownBlock]))
       refine hKK.out _ _ hS6 ?_
       clear hKK KK
       refine C_step (by kernel_rfl) rfl (by kernel_rfl) (by rfl) fun KK hKK => ?_
       simp only [List.getElem_toArray,List.getElem_cons_succ,List.getElem_cons_zero,Act.put,lA_,l0_,lS_]
       refine wp_append_own _ (.tmp 49) (.tmp 53) 22 rfl w5.heap.size 3 i0 (.int .i64 0) 1 8 Tryz.underlying22 hi hz0 hz1 hz2 rfl (by decide) _ _ _ rfl hown6 ⟨g5,0,none⟩ (gk - K1) (c5 - K1) (ints64 (rest.drop K1)) rfl ?pba ?pbb (in_one _) ?pbc ?pbd ?pbe ?_
       case pba => rw [ints_len,List.length_drop,HRL.out]; omega
       case pbb =>
        intro q u hq
        have hqK:q < gk - K1:=by have:=(List.getElem?_eq_some_iff.1 hq).1; rw [ints_len,List.length_drop,HRL.out] at this; exact this
        have:=HGK.out
        omega
       case pbc => unfold maxLen; omega
       case pbd => omega
       case pbe => exact hS6.size'
       exact tlWPerm0
      ·have hcF:(c5 = K1) = False:=eq_false hc
       clear hc
       refine C_region 8 (fun W => Bel w5 W) (by kernel_rfl) ?_
       refine C_take0a (i:=0) (v:=?_) rfl hYd (Or.inl ⟨by rfl,?_⟩) ?_
       rotate_left
       ·(intro W hW; go_simp; try with_reducible rfl)
       simp only [Act.put,lA_,l0_,lS_]
       refine C_take0a (i:=1) (v:=?_) rfl hYd (Or.inl ⟨by rfl,?_⟩) ?_
       rotate_left
       ·(intro W hW; go_simp; try with_reducible rfl)
       simp only [Act.put,lA_,l0_,lS_]
       refine C_take0a (i:=2) (v:=?_) rfl hYd (Or.inl ⟨by rfl,?_⟩) ?_
       rotate_left
       ·(intro W hW; go_simp; try with_reducible rfl)
       simp only [Act.put,lA_,l0_,lS_]
       refine C_take0a (i:=4) (v:=?_) rfl hYd (Or.inl ⟨by rfl,?_⟩) ?_
       rotate_left
       ·(intro W hW; go_simp; try with_reducible rfl)
       simp only [Act.put,lA_,l0_,lS_]
       refine C_take0a (i:=5) (v:=?_) rfl hYd (Or.inl ⟨by rfl,?_⟩) ?_
       rotate_left
       ·(intro W hW; go_simp; try with_reducible rfl)
       simp only [Act.put,lA_,l0_,lS_]
       refine C_take0a (i:=6) (v:=?_) rfl hYd (Or.inl ⟨by rfl,?_⟩) ?_
       rotate_left
       ·(intro W hW; go_simp; try with_reducible rfl)
       simp only [Act.put,lA_,l0_,lS_]
       refine C_take0a (i:=7) (v:=?_) rfl hYd (Or.inl ⟨by rfl,?_⟩) ?_
       rotate_left
       ·(intro W hW; go_simp; try with_reducible rfl)
       simp only [Act.put,lA_,l0_,lS_]
       refine C_do (i:=3) (by kernel_rfl) rfl (by rfl) fun KK hKK => ?_
       simp only [List.getElem_toArray,List.getElem_cons_succ,List.getElem_cons_zero,Act.put,lA_,l0_,lS_]
       refine wp_append_own _ (.const (.slice none 0 0)) (.tmp 48) 22 rfl w5.heap.size 3 i0 (.int .i64 0) 1 8 Tryz.underlying22 hi hz0 hz1 hz2 rfl (by decide) (.slice none 0 0) 0 [] rfl (World.ownsRow_nil _ _ _ _) ⟨g5,0,none⟩ K c5 (ints64 (rest.take K)) rfl ?pca ?pcb (in_one _) ?pcc ?pcd ?pce ?_
       case pca => rw [ints_len,List.length_take,HRL.out]; omega
       case pcb =>
        exact tlWPerm1
       case pcc => unfold maxLen; omega
       case pcd => omega
       case pce => exact hYd.size'
       intro v6 W6 hown6 hgr6 _
       have hS6:Bel w5 W6:=hYd.grown hgr6 (fun k h => absurd h (by simp [Value.ownBlock]))
       refine hKK.out _ _ hS6 ?_
       clear hKK KK
       refine C_step (by kernel_rfl) rfl (by kernel_rfl) (by rfl) fun KK hKK => ?_
       simp only [List.getElem_toArray,List.getElem_cons_succ,List.getElem_cons_zero,Act.put,lA_,l0_,lS_]
       refine wp_append_own _ (.tmp 49) (.tmp 53) 22 rfl w5.heap.size 3 i0 (.int .i64 0) 1 8 Tryz.underlying22 hi hz0 hz1 hz2 rfl (by decide) _ _ _ rfl hown6 ⟨g5,K1,none⟩ (gk - K1) (c5 - K1) (ints64 (rest.drop K1)) rfl ?pda ?pdb (in_one _) ?pdc ?pdd ?pde ?_
       case pda => rw [ints_len,List.length_drop,HRL.out]; omega
       case pdb =>
        intro q u hq
        have hqK:q < gk - K1:=by have:=(List.getElem?_eq_some_iff.1 hq).1; rw [ints_len,List.length_drop,HRL.out] at this; exact this
        rw [Addr.add_mid,(own_ext HR5.out hS6).cellAt (K1 + q) (by omega)]
        unfold ints64 at hq ⊢
        rw [List.map_drop,List.getElem?_drop] at hq
        exact hq
       case pdc => unfold maxLen; omega
       case pdd => omega
       case pde => exact hS6.size'
       exact tlWPerm0
end Go.Proofs.YtepfoelgegljbaaGreatDoor
