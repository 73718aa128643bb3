/- Part A44. -/
import Derived.Test.YtepfoelgegljbaaGreatDoorA39
namespace Go.Proofs.YtepfoelgegljbaaGreatDoor
set_option maxRecDepth 100000
open Go.RowKit
set_option linter.unusedVariables false
set_option linter.unusedSimpArgs false
theorem tlWScr20 {p:Prop} (h:p:=by
  have HISO:=hd_ hiso
  clear hiso
  go_wp2_with fail
  go_meet
  exact ⟨by rw [HCT.out,HISO.out]; rfl,rfl⟩):p:=h
set_option maxHeartbeats 16000000 in
theorem scr2 (d:SceneD) (w:World) (T:Nat) (mx:Int) (hmc:mx = 255 ∨ mx = 65535) (hd:d.In w) (s1:Scr) (hFR:FrG mx s1) (hOK:orderOk s1.ord s1.nt) (k1:1 ≤ s1.inn) (k4:s1.inn ≤ 4)
  (V3:World) (J:ScJ w V3 T d mx (s1.wo none 0 0 [])) {t5 t6 t7 t8 t9 t10 t11 t12 t13 t14 t15 t16 t17 t18 t19 t20 t21 t22 t23 t24 t25 t26 t27 t28 t29 t30 t31 t32 t33 t34 t35 t36 t37 t38 t39 t40 t41 t42 t43 t44 t45 t46 t47 t48 t49 t50 t51 t52 t53 t54 t55 t56 t57 t58 t59 t60 t61 t62 t63 t64 t65 t66 t67 t68 t69 t70 t71 t72 t73 t74 t75 t76 t77 t78 t79 t80 t81 t82 t83 t84 t85 t86 t87 t88 t89 t90 t91 t92 t93 t94 t95 t96 t97 t98 t99 t100 t101 t102 t103 t104 t105 t106 t107 t108 t109 t110 t111 t112 t113 t114 t115 t116 t117 t118 t119 t120 t121 t122 t123 t124 t125 t126 t127 t128 t129 t130 t131 t132 t133 t134 t135 t136 t137 t138 t139 t140 t141 t142 t143 t144 t145 t146 t147 t148 t149 t150 t151 t152 t153 t154 t155 t156 t157 t158 t159 t160 t161 t162 t163 t164 t165 t166 t167 t168 t169 t170 t171 t172 t173 t174 t175 t176 t177 t178 t179 t180 t181 t182 t183 t184 t185 t186 t187 t188 t189 t190 t191 t192 t193 t194 t195 t196 t197 t198 t199 t200 t201 t202 t203 t204 t205 t206 t207 t208 t209 t210 t211 t212 t213 t214 t215 t216 t217 t218 t219 t220:Value}:Code.wp Tryz.prog (seqR 12 (Tryz.f7.body.getD .skip)) (bodyPost Tryz.prog Tryz.f7 (fun e w' => ∃ (s:Scr) (F:Fo),e = .returned s.v ∧ GScr w' w.heap.size s F ∧ Bel w w')) { tmps:=List.toArray (d.v :: Value.pointer (some ⟨w.heap.size,0,none⟩) :: Value.pointer (some ⟨w.heap.size + 1,0,none⟩) :: Value.int .u16 mx :: Value.pointer (some ⟨T,0,none⟩) :: t5 :: t6 :: t7 :: t8 :: t9 :: t10 :: t11 :: t12 :: t13 :: t14 :: t15 :: t16 :: t17 :: t18 :: t19 :: t20 :: t21 :: t22 :: t23 :: t24 :: t25 :: t26 :: t27 :: t28 :: t29 :: t30 :: t31 :: t32 :: t33 :: t34 :: t35 :: t36 :: t37 :: t38 :: t39 :: t40 :: t41 :: t42 :: t43 :: t44 :: t45 :: t46 :: t47 :: t48 :: t49 :: t50 :: t51 :: t52 :: t53 :: t54 :: t55 :: t56 :: t57 :: t58 :: t59 :: t60 :: t61 :: t62 :: t63 :: t64 :: t65 :: t66 :: t67 :: t68 :: t69 :: t70 :: t71 :: t72 :: t73 :: t74 :: t75 :: t76 :: t77 :: t78 :: t79 :: t80 :: t81 :: t82 :: t83 :: t84 :: t85 :: t86 :: t87 :: t88 :: t89 :: t90 :: t91 :: t92 :: t93 :: t94 :: t95 :: t96 :: t97 :: t98 :: t99 :: t100 :: t101 :: t102 :: t103 :: t104 :: t105 :: t106 :: t107 :: t108 :: t109 :: t110 :: t111 :: t112 :: t113 :: t114 :: t115 :: t116 :: t117 :: t118 :: t119 :: t120 :: t121 :: t122 :: t123 :: t124 :: t125 :: t126 :: t127 :: t128 :: t129 :: t130 :: t131 :: t132 :: t133 :: t134 :: t135 :: t136 :: t137 :: t138 :: t139 :: t140 :: t141 :: t142 :: t143 :: t144 :: t145 :: t146 :: t147 :: t148 :: t149 :: t150 :: t151 :: t152 :: t153 :: t154 :: t155 :: t156 :: t157 :: t158 :: t159 :: t160 :: t161 :: t162 :: t163 :: t164 :: t165 :: t166 :: t167 :: t168 :: t169 :: t170 :: t171 :: t172 :: t173 :: t174 :: t175 :: t176 :: t177 :: t178 :: t179 :: t180 :: t181 :: t182 :: t183 :: t184 :: t185 :: t186 :: t187 :: t188 :: t189 :: t190 :: t191 :: t192 :: t193 :: t194 :: t195 :: t196 :: t197 :: t198 :: t199 :: t200 :: t201 :: t202 :: t203 :: t204 :: t205 :: t206 :: t207 :: t208 :: t209 :: t210 :: t211 :: t212 :: t213 :: t214 :: t215 :: t216 :: t217 :: t218 :: t219 :: t220 :: []),defers:=[] } V3:=by
 obtain ⟨j0,ji,jz0,jz1,jz2⟩:=info_parts info_op
 have hM:=hd_ (fun (x k:Int) (h0:1 ≤ k) (h1:k ≤ 4611686018427387903) (W:World) => mod_call x k W h0 h1)
 have HMC:=hd_ hmc
 have HD:=hd_ hd
 have HF1:=hd_ hFR
 have HO1:=hd_ hOK
 have HJ1:=hd_ J
 have hS1:=J.I.hX.size'
 clear hmc hd hFR hOK J
 obtain ⟨N9,hN9⟩:∃ N,N = min d.qn 9:=⟨_,rfl⟩
 have HN9:=hd_ hN9
 clear hN9
 change let Q:=bodyPost Tryz.prog Tryz.f7 (fun e w' => ∃ (s:Scr) (F:Fo),e = .returned s.v ∧ GScr w' w.heap.size s F ∧ Bel w w'); Code.wp Tryz.prog (seqR 12 (Tryz.f7.body.getD .skip)) Q { tmps:=List.toArray (d.v :: Value.pointer (some ⟨w.heap.size,0,none⟩) :: Value.pointer (some ⟨w.heap.size + 1,0,none⟩) :: Value.int .u16 mx :: Value.pointer (some ⟨T,0,none⟩) :: t5 :: t6 :: t7 :: t8 :: t9 :: t10 :: t11 :: t12 :: t13 :: t14 :: t15 :: t16 :: t17 :: t18 :: t19 :: t20 :: t21 :: t22 :: t23 :: t24 :: t25 :: t26 :: t27 :: t28 :: t29 :: t30 :: t31 :: t32 :: t33 :: t34 :: t35 :: t36 :: t37 :: t38 :: t39 :: t40 :: t41 :: t42 :: t43 :: t44 :: t45 :: t46 :: t47 :: t48 :: t49 :: t50 :: t51 :: t52 :: t53 :: t54 :: t55 :: t56 :: t57 :: t58 :: t59 :: t60 :: t61 :: t62 :: t63 :: t64 :: t65 :: t66 :: t67 :: t68 :: t69 :: t70 :: t71 :: t72 :: t73 :: t74 :: t75 :: t76 :: t77 :: t78 :: t79 :: t80 :: t81 :: t82 :: t83 :: t84 :: t85 :: t86 :: t87 :: t88 :: t89 :: t90 :: t91 :: t92 :: t93 :: t94 :: t95 :: t96 :: t97 :: t98 :: t99 :: t100 :: t101 :: t102 :: t103 :: t104 :: t105 :: t106 :: t107 :: t108 :: t109 :: t110 :: t111 :: t112 :: t113 :: t114 :: t115 :: t116 :: t117 :: t118 :: t119 :: t120 :: t121 :: t122 :: t123 :: t124 :: t125 :: t126 :: t127 :: t128 :: t129 :: t130 :: t131 :: t132 :: t133 :: t134 :: t135 :: t136 :: t137 :: t138 :: t139 :: t140 :: t141 :: t142 :: t143 :: t144 :: t145 :: t146 :: t147 :: t148 :: t149 :: t150 :: t151 :: t152 :: t153 :: t154 :: t155 :: t156 :: t157 :: t158 :: t159 :: t160 :: t161 :: t162 :: t163 :: t164 :: t165 :: t166 :: t167 :: t168 :: t169 :: t170 :: t171 :: t172 :: t173 :: t174 :: t175 :: t176 :: t177 :: t178 :: t179 :: t180 :: t181 :: t182 :: t183 :: t184 :: t185 :: t186 :: t187 :: t188 :: t189 :: t190 :: t191 :: t192 :: t193 :: t194 :: t195 :: t196 :: t197 :: t198 :: t199 :: t200 :: t201 :: t202 :: t203 :: t204 :: t205 :: t206 :: t207 :: t208 :: t209 :: t210 :: t211 :: t212 :: t213 :: t214 :: t215 :: t216 :: t217 :: t218 :: t219 :: t220 :: []),defers:=[] } V3
 intro Q
 obtain ⟨C,hC⟩:∃ C,C = seqR 12 (Tryz.f7.body.getD .skip):=⟨_,rfl⟩
 rw [← hC]
 dsimp only [Tryz.f7,Option.getD,seqR] at hC
 subst hC
 go_upto_region 17 with fail
 go_cut [13] (fun s13 Z => s13 = .slice none 0 0 ∧ Z = V3)
 case first =>
  go_wp2_with fail
  go_meet
  exact ⟨rfl,rfl⟩
 case rest =>
  obtain ⟨rfl,hZ⟩:=hcut
  subst hZ
  refine (‹∀ (a:Act) (w:World),Code.wp Tryz.prog _ _ a w → _›) _ _ ?_
  refine wp_seq_k fun KB hKB => ?_
  go_cut [13] (fun s13 Z => ∃ (n p:Nat) (L st:List Opr) (A:Option Addr) (c:Nat) (B:Option Addr) (cB:Nat),s13 = .slice B n cB ∧ st.length = n ∧ n ≤ 9 ∧ L.length = p ∧ p ≤ 9 ∧ ScJ w Z T d mx (s1.wo A p c L) ∧ OpsG s1.inn mx L st)
  case first =>
   go_wp2_with fail
   go_loopg [13,14] N9 (fun gk s13 s14 wr => ∃ (i n p:Nat) (L st:List Opr) (A:Option Addr) (c:Nat) (B:Option Addr) (cB:Nat),i + gk = N9 ∧ s14 = .int .i64 i ∧ s13 = .slice B n cB ∧ st.length = n ∧ n ≤ i ∧ L.length = p ∧ p ≤ i ∧ ScJ w wr T d mx (s1.wo A p c L) ∧ wr.ownsRow w.heap.size 29 12 (.slice B n cB) n (oprs st) ∧ (∀ k,Value.ownBlock (.slice A p c) = some k → Value.ownBlock (.slice B n cB) ≠ some k) ∧ OpsG s1.inn mx L st)
   case atStart => exact ⟨0,0,0,[],[],none,0,none,0,by omega,rfl,rfl,rfl,Nat.le_refl _,rfl,Nat.le_refl _,HJ1.out,World.ownsRow_nil _ _ _ _,fun k h => by simp [Value.ownBlock] at h,OpsG.nil _ _⟩
   case round =>
    obtain ⟨i,n,p,L,st,A,c,B,cB,hgk,rfl,rfl,hnl,hni,hpl,hpi,J,hop,hne,hG⟩:=hrel
    clear HJ1 hS1
    have HJ:=hd_ J
    have HOP:=hd_ hop
    have HNE:=hd_ hne
    have HG:=hd_ hG
    have HNL:=hd_ hnl
    have HPL:=hd_ hpl
    have hi9:i ≤ 9:=by have:=HN9.out; omega
    clear J hop hne hG hnl hpl
    by_cases hlt:i < N9
    case neg =>
     go_upto_region 19 with fail
     go_cut [133] (fun s133 Z => s133 = .bool false ∧ Z = wr)
     case first =>
      have D_9:=cq9 HJ.out.I.eD rfl
      by_cases hp9:d.qn ≤ 9
      ·have k1:decide ((i:Int) < (d.qn:Int)) = false:=decide_eq_false (by have:=HN9.out; omega)
       have k1':decide (i < d.qn) = false:=decide_eq_false (by have:=HN9.out; omega)
       go_wp2_with fail
       go_meet
       exact ⟨rfl,rfl⟩
      ·have k1:decide ((i:Int) < (d.qn:Int)) = true:=decide_eq_true (by have:=HN9.out; omega)
       have k1':decide (i < d.qn) = true:=decide_eq_true (by have:=HN9.out; omega)
       have k2:decide ((i:Int) < 9) = false:=decide_eq_false (by have:=HN9.out; omega)
       go_wp2_with fail
       go_meet
       exact ⟨rfl,rfl⟩
     case rest =>
      obtain ⟨rfl,hZ⟩:=hcut
      subst hZ
      obtain ⟨V3,rfl⟩:∃ W:World,W = wc:=⟨_,rfl⟩
      go_wp2_with fail
      go_meet
      exact ⟨n,p,L,st,A,c,B,cB,rfl,HNL.out,by omega,HPL.out,by omega,HJ.out,HG.out⟩
    case pos =>
     have hd1:decide ((i:Int) < (d.qn:Int)) = true:=decide_eq_true (by have:=HN9.out; omega)
     have hd2:decide ((i:Int) < 9) = true:=decide_eq_true (by have:=HN9.out; omega)
     have hiq:i < d.qn:=by have:=HN9.out; omega
     obtain ⟨r,hr⟩:∃ r,d.raws[i]? = some r:=⟨_,List.getElem?_eq_getElem (by rw [HD.out.lq]; omega)⟩
     obtain ⟨gq,offq,hqe,hc0,hcs⟩:=(HD.out.raws.bel HJ.out.I.hX).raw hr hiq
     have hqe':wr.cell? ⟨w.heap.size,9,none⟩ = some (.slice (some ⟨gq,offq,none⟩) d.qn d.qc):=by rw [← hqe]; exact cq9 HJ.out.I.eD rfl
     have HRO:=hd_ (HD.out.raw r (List.mem_of_getElem? hr))
     have HQ9:=hd_ (And.intro hqe' (And.intro hc0 hcs))
     have hrk:=HRO.out.k
     have D_9:=hqe'
     clear hr hqe hcs hqe'
     go_upto_region 23 with (first | (go_at_call 8; (with_reducible refine (hM.out _ _ (by first | decide | omega) (by first | decide | omega) _).mono ?_); rintro e w9 ⟨rfl,rfl⟩) | fail)
     have K0:0 ≤ r.k % 8:=Int.emod_nonneg _ (by decide)
     have K8:r.k % 8 < 8:=Int.emod_lt_of_pos _ (by decide)
     obtain ⟨K,hK⟩:∃ K,K = r.k % 8:=⟨_,rfl⟩
     rw [← hK] at K0 K8
     rw [← hK]
     clear hd1 hd2 hc0 hrk D_9 hK
     obtain ⟨kb,hkb⟩:∃ kb:Bool,kb = (K == 0 && decide (0 < n)):=⟨_,rfl⟩
     have HKB:=hd_ hkb
     clear hkb
     go_cut [150] (fun s150 Z => s150 = .bool kb ∧ Z = wr)
     case first =>
      by_cases hK0:K = 0
      ·have k1:(K == 0) = true:=beq_iff_eq.2 hK0
       by_cases hn0:0 < n
       ·have k2:decide ((0:Int) < (n:Int)) = true:=decide_eq_true (by omega)
        have k3:decide (0 < n) = true:=decide_eq_true hn0
        obtain rfl:kb = true:=by rw [HKB.out,k1,decide_eq_true hn0]; rfl
        clear hK0 hn0
        go_wp2_with fail
        go_meet
        exact ⟨rfl,rfl⟩
       ·have k2:decide ((0:Int) < (n:Int)) = false:=decide_eq_false (by omega)
        have k3:decide (0 < n) = false:=decide_eq_false hn0
        obtain rfl:kb = false:=by rw [HKB.out,k1,decide_eq_false hn0]; rfl
        clear hK0 hn0
        go_wp2_with fail
        go_meet
        exact ⟨rfl,rfl⟩
      ·have k1:(K == 0) = false:=beq_eq_false_iff_ne.2 hK0
       obtain rfl:kb = false:=by rw [HKB.out,k1]; rfl
       clear hK0
       go_wp2_with fail
       go_meet
       exact ⟨rfl,rfl⟩
     case rest =>
      obtain ⟨rfl,hZ⟩:=hcut
      subst hZ
      obtain ⟨V,rfl⟩:∃ W:World,W = wc:=⟨_,rfl⟩
      have hbase2:=HJ.out.I.hX.size'
      have hlt1:=lt_of_heap HJ.out.I.eO
      cases kb with
      | true =>
       obtain ⟨m,rfl⟩:∃ m,n = m + 1:=by
        have h:=HKB.out
        simp only [Bool.true_eq,Bool.and_eq_true,decide_eq_true_eq] at h
        exact ⟨n - 1,by omega⟩
       have O_9:=cq9 HJ.out.I.eO rfl
       have fO:=frozA HJ.out.I.eO
       have hpc:p + 1 ≤ maxLen:=by unfold maxLen; omega
       have hpd:(p + 1) * 88 ≤ 140737488355328:=by omega
       go_upto_region 25 with (first | (at_builtin; refine wpList_append_own2 rfl _ _ 36 rfl w.heap.size 29 j0 (.agg #[.int .i64 0,.int .i64 0,.int .i64 0,.int .i64 0,.int .i64 0,.int .i64 0,.int .i64 0,.int .u16 0,.int .i64 0,.int .i64 0,.bool false,.bool false]) 12 88 Tryz.underlying36 ji jz0 jz1 jz2 rfl (by decide) _ _ _ rfl (own_ext HJ.out.op ((Bel.refl V).al _)) ⟨V.heap.size,0,none⟩ 1 1 popO.cs rfl rfl (new_row V popO.cs _) (op_one popO) hpc hpd (Nat.le_trans hbase2 ((Bel.refl V).al _).size') (by decide) ?_) | fail)
       intro v3 W3 hown3 hgr3 hblk3
       obtain ⟨A3,c3,rfl,-⟩:=own_sl hown3
       have J3:=HJ.out.bel ((Bel.refl V).al (.cells popO.cs.toArray 29))
       have I3:=J3.I.grown J3.op (Nat.le_refl _) (by decide) (by decide) hgr3
       have JN:=J3.addOp (A':=A3) (p':=p + 1) (c':=c3) (L':=L ++ [popO]) hgr3 (by rw [oprs_snoc]; exact hown3)
       have hrow:=J3.row (A':=A3) (p':=p + 1) (c':=c3) (L':=L ++ [popO]) hgr3 (own_ext HOP.out ((Bel.refl V).al _)) HNE.out
       have hne3:∀ k,Value.ownBlock (.slice A3 (p + 1) c3) = some k → Value.ownBlock (.slice B (m + 1) cB) ≠ some k:=fun k hk hB => by
        rcases hblk3 k hk with h | h
        ·exact HNE.out k h hB
        ·have h1:=(HOP.out.lt k hB).2
         have h2:=((Bel.refl V).al (.cells popO.cs.toArray 29)).size'
         rw [h] at h1
         omega
       clear O_9 fO hpc hpd
       have O_9:=cq9 I3.eO rfl
       have fO:=frozA I3.eO
       have lO:=lt_of_heap I3.eO
       have HN3:=hd_ (And.intro JN (And.intro hrow hne3))
       clear J3 I3 JN hrow hne3 hown3 hgr3 hblk3
       go_upto_region 25 with fail
       refine at_world (fun Z => ScJ w Z T d mx (s1.wo A3 (p + 1) c3 (L ++ [popO])) ∧ Z.ownsRow w.heap.size 29 12 (.slice B (m + 1) cB) (m + 1) (oprs st) ∧ ∀ k,Value.ownBlock (.slice A3 (p + 1) c3) = some k → Value.ownBlock (.slice B (m + 1) cB) ≠ some k) HN3.out ?_
       clear O_9 fO lO HN3
       rintro V5 HV5
       have HV:=hd_ HV5
       have hcap:=own_cap HV5.2.1
       have hm1:m ≤ 100:=by omega
       clear HV5
       go_wp2_with fail
       go_roundg (gk - 1)
       case measure => omega
       case rel =>
        have hcut:=own_cut (m:=m) HV.out.2.1 (by omega) (by omega)
        have h2:=oprs_pop st
        rw [HNL.out,Nat.add_sub_cancel] at h2
        rw [h2] at hcut
        refine ⟨i + 1,m,p + 1,L ++ [popO],st.dropLast,A3,c3,B,cB,by omega,by go_num,rfl,by rw [List.length_dropLast,HNL.out]; omega,by omega,by rw [List.length_append,HPL.out]; rfl,by omega,HV.out.1,hcut,?_,HG.out.pop fun e => ?_⟩
        ·intro k hk hB
         refine HV.out.2.2 k hk ?_
         cases B with
         | none => simp [Value.ownBlock] at hB
         | some a => exact hB
        ·have h:=HNL.out
         rw [e] at h
         simp at h
      | false =>
       go_upto_region 26 with fail
       go_cut [17] (fun s17 Z => s17 = .bool (ctxB st) ∧ Z = V)
       case first =>
        rcases Nat.eq_zero_or_pos n with hn | hn
        ·have k0:((n:Int) == 0) = true:=beq_iff_eq.2 (by omega)
         obtain rfl:st = []:=List.length_eq_zero_iff.1 (HNL.out.trans hn)
         clear hn
         go_wp2_with fail
         go_meet
         exact ⟨rfl,rfl⟩
        ·obtain ⟨m,rfl⟩:∃ m,n = m + 1:=⟨n - 1,by omega⟩
         obtain ⟨t,ht⟩:∃ t,st[m]? = some t:=⟨_,List.getElem?_eq_getElem (by rw [HNL.out]; omega)⟩
         have hctx:=ctx_last HNL.out ht
         obtain ⟨gB,offB,rfl,-,-,-,-,-,-,-,-,-,-,ciso,ckn⟩:=(own_sl' HOP.out).op ht (by omega)
         have k0:(((m + 1:Nat):Int) == 0) = false:=beq_eq_false_iff_ne.2 (by omega)
         have k3:IntKind.i64.wrap (((m + 1:Nat):Int) - 1) = (m:Int):=by rw [wrap_i64 _ (by omega) (by omega)]; omega
         have hm1:m ≤ 100:=by omega
         have HCT:=hd_ hctx
         clear hn ht hctx
         cases hiso:t.iso
         ·rw [hiso] at ciso
          exact tlWScr20
         ·rw [hiso] at ciso
          exact tlWScr20
       case rest =>
        obtain ⟨rfl,hZ⟩:=hcut
        subst hZ
        obtain ⟨Y,rfl⟩:∃ W:World,W = wc:=⟨_,rfl⟩
        obtain ⟨fr,hfr⟩:∃ fr,fr = ctxB st:=⟨_,rfl⟩
        rw [← hfr]
        have HFR:=hd_ hfr
        clear hfr
        obtain ⟨pu,hpu⟩:∃ pu:Bool,decide (K < 3) = pu:=⟨_,rfl⟩
        have HPU:=hd_ hpu
        go_upto_region 27 with fail
        go_cut [18] (fun s18 Z => ∃ (T2:Nat) (o:Opr),s18 = .pointer (some ⟨T2,0,none⟩) ∧ Z.heap[T2]? = some (.cells o.cs.toArray 29) ∧ OpG s1.inn mx fr (if pu then 2 else 1) o ∧ Bel Y Z ∧ Y.heap.size ≤ T2)
        case first =>
         have d9:=fun (W:World) (h:Bel Y W) => h.cell HQ9.out.1
         obtain ⟨y1,y2,y3,y4,y5,y6,y7,y8,y9,y10⟩:=HQ9.out.2.2
         have g0:=fun (W:World) (h:Bel Y W) => h.cell HQ9.out.2.1
         have g1:=fun (W:World) (h:Bel Y W) => h.cell y1
         have g2:=fun (W:World) (h:Bel Y W) => h.cell y2
         have g3:=fun (W:World) (h:Bel Y W) => h.cell y3
         have g4:=fun (W:World) (h:Bel Y W) => h.cell y4
         have g5:=fun (W:World) (h:Bel Y W) => h.cell y5
         have g6:=fun (W:World) (h:Bel Y W) => h.cell y6
         have g7:=fun (W:World) (h:Bel Y W) => h.cell y7
         have g8:=fun (W:World) (h:Bel Y W) => h.cell y8
         have g9:=fun (W:World) (h:Bel Y W) => h.cell y9
         have g10:=fun (W:World) (h:Bel Y W) => h.cell y10
         clear y1 y2 y3 y4 y5 y6 y7 y8 y9 y10
         have e8:=fun (W:World) (h:Bel Y W) => h.cell (cq8 HJ.out.I.eO rfl)
         have e1:=fun (W:World) (h:Bel Y W) => h.cell (cq1 HJ.out.I.eO rfl)
         have e2:=fun (W:World) (h:Bel Y W) => h.cell (cq2 HJ.out.I.eO rfl)
         have e3:=fun (W:World) (h:Bel Y W) => h.cell (cq3 HJ.out.I.eO rfl)
         have e4:=fun (W:World) (h:Bel Y W) => h.cell (cq4 HJ.out.I.eO rfl)
         have hF:=HF1.out
         have HGO:=hd_ (fun W => gop_ex r pu s1.inn s1.can fr mx HMC.out HRO.out k1 (by omega) (by have:=hF.x0; omega) (by have:=hF.x1; omega) (by have:=hF.y0; omega) (by have:=hF.y1; omega) W)
         have hYd:=(Bel.refl Y).dr
         clear hF
         refine C_region 14 (fun W => Bel Y W) (by kernel_rfl) ?_
         refine C_take0a (i:=0) (v:=?_) rfl hYd (Or.inl ⟨by rfl,?_⟩) ?_
         rotate_left
         ·(intro W hW; go_simp; try with_reducible rfl)
         simp only [Act.put,lA_,l0_,lS_]
         refine C_takeUa (i:=1) (v:=?_) [3,4,14] rfl hYd (Or.inl ⟨by rfl,?_⟩) ?_
         rotate_left
         ·(intro W hW; (try dsimp only at hW); go_simp; try with_reducible rfl)
         simp only [Act.put,lA_,l0_,lS_]
         refine C_take0a (i:=2) (v:=?_) rfl hYd (Or.inl ⟨by rfl,?_⟩) ?_
         rotate_left
         ·(intro W hW; go_simp; try with_reducible rfl)
         simp only [Act.put,lA_,l0_,lS_]
         refine C_take0a (i:=3) (v:=?_) rfl hYd (Or.inl ⟨by rfl,?_⟩) ?_
         rotate_left
         ·(intro W hW; go_simp; try with_reducible rfl)
         simp only [Act.put,lA_,l0_,lS_]
         refine C_takea (i:=4) (v:=?_) rfl hYd (Or.inl ⟨by rfl,?_⟩) ?_
         rotate_left
         ·(intro W hW; (try dsimp only at hW); go_simp; try with_reducible rfl)
         simp only [Act.put,lA_,l0_,lS_]
         refine C_take0a (i:=5) (v:=?_) rfl hYd (Or.inl ⟨by rfl,?_⟩) ?_
         rotate_left
         ·(intro W hW; go_simp; try with_reducible rfl)
         simp only [Act.put,lA_,l0_,lS_]
         refine C_take0a (i:=6) (v:=?_) rfl hYd (Or.inl ⟨by rfl,?_⟩) ?_
         rotate_left
         ·(intro W hW; go_simp; try with_reducible rfl)
         simp only [Act.put,lA_,l0_,lS_]
         refine C_take0a (i:=7) (v:=?_) rfl hYd (Or.inl ⟨by rfl,?_⟩) ?_
         rotate_left
         ·(intro W hW; go_simp; try with_reducible rfl)
         simp only [Act.put,lA_,l0_,lS_]
         refine C_takeUa (i:=8) (v:=?_) [9,14] rfl hYd (Or.inl ⟨by rfl,?_⟩) ?_
         rotate_left
         ·(intro W hW; (try dsimp only at hW); go_simp; try with_reducible rfl)
         simp only [Act.put,lA_,l0_,lS_]
         refine C_take0a (i:=9) (v:=?_) rfl hYd (Or.inl ⟨by rfl,?_⟩) ?_
         rotate_left
         ·(intro W hW; go_simp; try with_reducible rfl)
         simp only [Act.put,lA_,l0_,lS_]
         refine C_take0a (i:=10) (v:=?_) rfl hYd (Or.inl ⟨by rfl,?_⟩) ?_
         rotate_left
         ·(intro W hW; go_simp; try with_reducible rfl)
         simp only [Act.put,lA_,l0_,lS_]
         refine C_takea (i:=11) (v:=?_) rfl hYd (Or.inl ⟨by rfl,?_⟩) ?_
         rotate_left
         ·(intro W hW; (try dsimp only at hW); go_simp; try with_reducible rfl)
         simp only [Act.put,lA_,l0_,lS_]
         refine C_take0a (i:=12) (v:=?_) rfl hYd (Or.inl ⟨by rfl,?_⟩) ?_
         rotate_left
         ·(intro W hW; go_simp; try with_reducible rfl)
         simp only [Act.put,lA_,l0_,lS_]
         refine C_take0a (i:=13) (v:=?_) rfl hYd (Or.inl ⟨by rfl,?_⟩) ?_
         rotate_left
         ·(intro W hW; go_simp; try with_reducible rfl)
         simp only [Act.put,lA_,l0_,lS_]
         refine C_branch (rs:=[14,15]) (by kernel_rfl) (by simp) (AllC.cons rfl (by rfl) (fun KK hKK => ?_) (AllC.cons rfl (by rfl) (fun KK hKK => ?_) AllC.nil))
         ·go_simp
          go_at_call 27
          with_reducible refine (HGO.out _).mono ?_
          rintro e w9 ⟨o,rfl,hog,hb9⟩
          have hS9:Bel Y w9:=hYd.trans hb9
          refine hKK.out _ _ hS9 ?_
          clear hKK KK d9 e8 e1 e2 e3 e4 g0 g1 g2 g3 g4 g5 g6 g7 g8 g9 g10
          have HOG:=hd_ hog
          have HS9:=hd_ hS9
          clear hog hS9 hb9
          refine C_of_any _ _ _ _ (by rfl) ?_
          refine any_of_C (c:=15) (S:=fun _ => True) _ _ _ _ ?_
          refine C_tail (c:=15) (g:=1) (l:=_) rfl rfl (by kernel_rfl) (by kernel_rfl) ?_
          simp only [List.drop_succ_cons,List.drop_zero]
          go_wp2_with (first | ((with_reducible show wpList _ _ _ (⟨none,.store _ _ _,_,_,_,_⟩ :: _) _ _); refine wpList_st (n:=0) (g:=w9.heap.size) (cells:=o.cs) rfl rfl rfl rfl (at_new rfl) rfl (by kernel_rfl) (op_one o) ?_; intro Y5 e5 hU5) | fail)
          go_meet
          exact ⟨w9.heap.size,o,rfl,e5,HOG.out,hU5.bel (HS9.out.al _) HS9.out.size',HS9.out.size'⟩
         ·go_simp
          have hSA:=hYd.al (.cells (⟨0,0,0,0,0,0,0,0,0,0,false,false⟩:Opr).cs.toArray 29)
          refine hKK.out _ _ hSA ?_
          clear hKK KK
          refine C_step (by kernel_rfl) rfl (by kernel_rfl) (by rfl) fun KK hKK => ?_
          go_simp
          go_at_call 27
          with_reducible refine (HGO.out _).mono ?_
          rintro e w9 ⟨o,rfl,hog,hb9⟩
          refine hKK.out _ _ ?_
          clear hKK KK d9 e8 e1 e2 e3 e4 g0 g1 g2 g3 g4 g5 g6 g7 g8 g9 g10
          have HOG:=hd_ hog
          have HS9:=hd_ (hSA.trans hb9)
          have hnew:=hd_ (hb9.heap (show (Y.drew.alloc (.cells (⟨0,0,0,0,0,0,0,0,0,0,false,false⟩:Opr).cs.toArray 29)).heap[Y.heap.size]? = some (.cells (⟨0,0,0,0,0,0,0,0,0,0,false,false⟩:Opr).cs.toArray 29) from at_new rfl))
          clear hog hb9 hSA
          refine any_of_C (c:=16) (S:=fun _ => True) _ _ _ _ ?_
          refine C_tail (c:=16) (g:=0) (l:=_) rfl rfl (by kernel_rfl) (by kernel_rfl) ?_
          simp only [List.drop_succ_cons,List.drop_zero]
          go_wp2_with (first | ((with_reducible show wpList _ _ _ (⟨none,.store _ _ _,_,_,_,_⟩ :: _) _ _); refine wpList_st (n:=0) (g:=Y.heap.size) (cells:=o.cs) rfl rfl rfl rfl hnew.out rfl (by kernel_rfl) (op_one o) ?_; intro Y5 e5 hU5) | fail)
          go_meet
          exact ⟨Y.heap.size,o,rfl,e5,HOG.out,hU5.bel HS9.out (Nat.le_refl _),Nat.le_refl _⟩
        case rest =>
         clear hpu
         obtain ⟨T2,o,rfl,eQ,hog,hYZ,lT2⟩:=hcut
         have JY:=HJ.out.bel hYZ
         have hopY:=own_ext HOP.out hYZ
         have hbaseY:=JY.I.hX.size'
         have ltY:=lt_of_heap eQ
         have lopr:=opr_ld eQ
         have O_9:=cq9 JY.I.eO rfl
         have fO:=frozA JY.I.eO
         have hpc:p + 1 ≤ maxLen:=by unfold maxLen; omega
         have hpd:(p + 1) * 88 ≤ 140737488355328:=by omega
         have HJY:=hd_ JY
         have HOY:=hd_ hopY
         have HEQ:=hd_ eQ
         have HOG:=hd_ hog
         have hneT:T2 ≠ T:=by
          have h1:=lt_of_heap HJ.out.I.eO
          omega
         clear JY hopY eQ hog
         obtain ⟨Z2,rfl⟩:∃ W:World,W = wc:=⟨_,rfl⟩
         go_upto_region 29 with (first | ((with_reducible show wpList _ _ _ (⟨some 197,_,_,_,_,_⟩ :: _) _ _); refine wpList_ld rfl rfl rfl (lopr) ?_) | (at_builtin; refine wpList_append_own2 rfl _ _ 36 rfl w.heap.size 29 j0 (.agg #[.int .i64 0,.int .i64 0,.int .i64 0,.int .i64 0,.int .i64 0,.int .i64 0,.int .i64 0,.int .u16 0,.int .i64 0,.int .i64 0,.bool false,.bool false]) 12 88 Tryz.underlying36 ji jz0 jz1 jz2 rfl (by decide) _ _ _ rfl (own_ext HJY.out.op ((Bel.refl Z2).al _)) ⟨Z2.heap.size,0,none⟩ 1 1 o.cs rfl rfl (new_row Z2 o.cs _) (op_one o) hpc hpd (Nat.le_trans hbaseY ((Bel.refl Z2).al _).size') (by decide) ?_) | fail)
         intro v3 W3 hown3 hgr3 hblk3
         obtain ⟨A3,c3,rfl,-⟩:=own_sl hown3
         have J3:=HJY.out.bel ((Bel.refl Z2).al (.cells o.cs.toArray 29))
         have I3:=J3.I.grown J3.op (Nat.le_refl _) (by decide) (by decide) hgr3
         have JN:=J3.addOp (A':=A3) (p':=p + 1) (c':=c3) (L':=L ++ [o]) hgr3 (by rw [oprs_snoc]; exact hown3)
         have hrow:=J3.row (A':=A3) (p':=p + 1) (c':=c3) (L':=L ++ [o]) hgr3 (own_ext HOY.out ((Bel.refl Z2).al _)) HNE.out
         have eQ3:(W3.setCell ⟨T,9,none⟩ (.slice A3 (p + 1) c3)).heap[T2]? = some (.cells o.cs.toArray 29):=by
          refine heap_set_other _ (fun e => hneT e.symm) ((hgr3.block T2 (Nat.lt_of_lt_of_le ltY ((Bel.refl Z2).al _).size') fun e => ?_).trans (at_old HEQ.out))
          have h1:=(HJ.out.op.lt T2 e.symm).2
          omega
         have hne3:∀ k,Value.ownBlock (.slice A3 (p + 1) c3) = some k → Value.ownBlock (.slice B n cB) ≠ some k:=fun k hk hB => by
          rcases hblk3 k hk with h | h
          ·exact HNE.out k h hB
          ·have h1:=(HOY.out.lt k hB).2
           have h2:=((Bel.refl Z2).al (.cells o.cs.toArray 29)).size'
           rw [h] at h1
           omega
         clear O_9 fO lopr hpc hpd
         have O_9:=cq9 I3.eO rfl
         have fO:=frozA I3.eO
         have lO:=lt_of_heap I3.eO
         have HN3:=hd_ (And.intro JN (And.intro hrow (And.intro eQ3 hne3)))
         clear J3 I3 JN hrow hne3 hown3 hgr3 hblk3 eQ3 HJY HOY HEQ
         go_upto_region 29 with fail
         refine at_world (fun Z => ScJ w Z T d mx (s1.wo A3 (p + 1) c3 (L ++ [o])) ∧ Z.ownsRow w.heap.size 29 12 (.slice B n cB) n (oprs st) ∧ Z.heap[T2]? = some (.cells o.cs.toArray 29) ∧ ∀ k,Value.ownBlock (.slice A3 (p + 1) c3) = some k → Value.ownBlock (.slice B n cB) ≠ some k) HN3.out ?_
         clear O_9 fO lO HN3
         rintro V5 HV5
         have HV:=hd_ HV5
         have Q_0:=cq0 HV5.2.2.1 rfl
         have lopr:=opr_ld HV5.2.2.1
         have hbase5:=HV5.1.I.hX.size'
         clear HV5
         cases pu with
         | false =>
          have hkk:(o.k == 2) = false:=beq_eq_false_iff_ne.2 (by have h:=HOG.out.kk; simp only [Bool.false_eq_true,if_false] at h; omega)
          go_wp2_with fail
          go_roundg (gk - 1)
          case measure => omega
          case rel =>
           have hg:=HOG.out
           simp only [Bool.false_eq_true,if_false] at hg
           rw [HFR.out] at hg
           exact ⟨i + 1,n,p + 1,L ++ [o],st,A3,c3,B,cB,by omega,by go_num,rfl,HNL.out,by omega,by rw [List.length_append,HPL.out]; rfl,by omega,HV.out.1,HV.out.2.1,HV.out.2.2.2,HG.out.draw hg (by rw [HNL.out]; omega)⟩
         | true =>
          have hkk:(o.k == 2) = true:=beq_iff_eq.2 (by have h:=HOG.out.kk; simp only [if_true] at h; exact h)
          have hpc:n + 1 ≤ maxLen:=by unfold maxLen; omega
          have hpd:(n + 1) * 88 ≤ 140737488355328:=by omega
          go_upto_region 20 with (first | ((with_reducible show wpList _ _ _ (⟨some 205,_,_,_,_,_⟩ :: _) _ _); refine wpList_ld rfl rfl rfl (lopr) ?_) | (at_builtin; refine wpList_append_own2 rfl _ _ 36 rfl w.heap.size 29 j0 (.agg #[.int .i64 0,.int .i64 0,.int .i64 0,.int .i64 0,.int .i64 0,.int .i64 0,.int .i64 0,.int .u16 0,.int .i64 0,.int .i64 0,.bool false,.bool false]) 12 88 Tryz.underlying36 ji jz0 jz1 jz2 rfl (by decide) _ _ _ rfl (own_ext HV.out.2.1 ((Bel.refl V5).al _)) ⟨V5.heap.size,0,none⟩ 1 1 o.cs rfl rfl (new_row V5 o.cs _) (op_one o) hpc hpd (Nat.le_trans hbase5 ((Bel.refl V5).al _).size') (by decide) ?_) | fail)
          intro v6 W6 hown6 hgr6 hblk6
          obtain ⟨B6,c6,rfl,-⟩:=own_sl hown6
          have J6:=(HV.out.1.bel ((Bel.refl V5).al (.cells o.cs.toArray 29))).other (own_ext HV.out.2.1 ((Bel.refl V5).al _)) (fun k hk hA => HV.out.2.2.2 k hA hk) hgr6
          have hne6:∀ k,Value.ownBlock (.slice A3 (p + 1) c3) = some k → Value.ownBlock (.slice B6 (n + 1) c6) ≠ some k:=fun k hk hB => by
           rcases hblk6 k hB with h | h
           ·exact HV.out.2.2.2 k hk h
           ·have h1:=(HV.out.1.op.lt k hk).2
            have h2:=((Bel.refl V5).al (.cells o.cs.toArray 29)).size'
            rw [h] at h1
            omega
          have H6:=hd_ (And.intro J6 (And.intro hown6 hne6))
          clear J6 hown6 hne6 hgr6 hblk6 Q_0 lopr hpc hpd
          go_wp2_with fail
          go_roundg (gk - 1)
          case measure => omega
          case rel =>
           have hg:=HOG.out
           simp only [if_true] at hg
           rw [HFR.out] at hg
           exact ⟨i + 1,n + 1,p + 1,L ++ [o],st ++ [o],A3,c3,B6,c6,by omega,by go_num,rfl,by rw [List.length_append,HNL.out]; rfl,by omega,by rw [List.length_append,HPL.out]; rfl,by omega,H6.out.1,by rw [oprs_snoc]; exact H6.out.2.1,H6.out.2.2,HG.out.push hg (by rw [HNL.out]; omega)⟩
  case rest =>
   obtain ⟨n,p,L,st,A,c,B,cB,rfl,hnl,hn9,hpl,hp9,J,hG⟩:=hcut
   refine hKB _ _ ?_
   exact scr3 d w T mx HMC.out s1 HF1.out HO1.out k1 k4 n p L st A c B cB hnl hn9 hpl hp9 _ J hG
end Go.Proofs.YtepfoelgegljbaaGreatDoor
